/-
  Merged texts (Db2): what the row proofs use of them.
-/
import Derived.Test.YtogchafnnkajfaaGreatDb1
import Derived.Deep.DeepCutAuto
import Derived.Maps.OwnSet
import Derived.BigRegion
import Derived.Deep.Quiet
import Derived.BigQuiet
import Derived.Deep.QuietTactic
namespace Go.Proofs.YtogchafnnkajfaaGreat
set_option linter.unusedVariables false
open Go.RowKit
attribute [local go_sem] Oper.semAt_some
def flDur (now : List Nat) (i : Nat) : List (Nat × Nat × Nat) → List Nat → List Nat
  | [], dur => dur
  | r :: l, dur => flDur now i l (if r.1 = i then dur.set r.2.1 (now[r.2.1]?.getD 0) else dur)
theorem flDur_snoc (now : List Nat) (i : Nat) (l : List (Nat × Nat × Nat)) (r : Nat × Nat × Nat) (dur : List Nat) :
    flDur now i (l ++ [r]) dur = if r.1 = i then (flDur now i l dur).set r.2.1 (now[r.2.1]?.getD 0) else flDur now i l dur := by
  induction l generalizing dur with
  | nil => simp [flDur]
  | cons q l ih => simp only [List.cons_append, flDur, ih]
theorem flDur_length (now : List Nat) (i : Nat) (l : List (Nat × Nat × Nat)) (dur : List Nat) : (flDur now i l dur).length = dur.length := by
  induction l generalizing dur with
  | nil => rfl
  | cons q l ih => rw [flDur, ih]; split <;> simp
theorem flDur_w (now : List Nat) (hn : W64 now) (i : Nat) (l : List (Nat × Nat × Nat)) (dur : List Nat) (h : W64 dur) : W64 (flDur now i l dur) := by
  induction l generalizing dur with
  | nil => exact h
  | cons q l ih =>
    rw [flDur]
    apply ih
    split
    · exact h.set _ _ (hn.at _)
    · exact h
def DS.flTo (S : DS) (i k : Nat) : DS := { S with dr := S.dr.set i ((S.drv i).1, flDur (S.drv i).1 i (S.log.take k) (S.drv i).2.1, (S.drv i).2.2) }
def others (i : Nat) (l : List (Nat × Nat × Nat)) : List (Nat × Nat × Nat) := l.filter fun r => !(r.1 == i)
def DS.flush (S : DS) (d : Int) : DS := if S.chkF d ≠ 0 then S else { S.flTo d.toNat S.log.length with log := others d.toNat S.log }
theorem DLay.frIn {W W' : World} {F G : Nat → Prop} {g : Nat} {S : DS} {dv lv : Value} {mb : Nat} {zs : List Dl} (h : DLay W g S dv lv mb zs) (hi : DIn F g dv lv mb zs) (hf : Fr G W W') (hn : ∀ j, F j → ¬ G j) : DLay W' g S dv lv mb zs :=
  ⟨h.arr.fr hf (hn _ hi.arr), own_fr h.drv hf (fun b hb => hn _ (hi.drv b hb)), (hf.block mb (map_lt h.map) (hn _ hi.map)).trans h.map, own_fr h.log hf (fun b hb => hn _ (hi.log b hb)),
    h.dr, fun z hz => (h.now z hz).fr hf (hn _ (hi.now z hz)), fun z hz => (h.dur z hz).fr hf (hn _ (hi.dur z hz)), h.apart⟩
theorem DIn.lt {W : World} {F : Nat → Prop} {g : Nat} {S : DS} {dv lv : Value} {mb : Nat} {zs : List Dl} (h : DIn F g dv lv mb zs) (hl : DLay W g S dv lv mb zs) : DIn (fun j => F j ∧ j < W.heap.size) g dv lv mb zs :=
  ⟨⟨h.arr, hl.arr.lt⟩, ⟨h.map, map_lt hl.map⟩, fun b hb => ⟨h.drv b hb, own_lt hl.drv b hb⟩, fun b hb => ⟨h.log b hb, own_lt hl.log b hb⟩, fun z hz => ⟨h.now z hz, (hl.now z hz).lt⟩, fun z hz => ⟨h.dur z hz, (hl.dur z hz).lt⟩⟩
theorem DIn.mono {F G : Nat → Prop} {g : Nat} {dv lv : Value} {mb : Nat} {zs : List Dl} (h : DIn F g dv lv mb zs) (hm : ∀ j, F j → G j) : DIn G g dv lv mb zs :=
  ⟨hm _ h.arr, hm _ h.map, fun b hb => hm _ (h.drv b hb), fun b hb => hm _ (h.log b hb), fun z hz => hm _ (h.now z hz), fun z hz => hm _ (h.dur z hz)⟩
theorem flTo_zero (S : DS) (i : Nat) (hi : i < S.dr.length) : S.flTo i 0 = S := by
  have : S.dr.set i ((S.drv i).1, flDur (S.drv i).1 i (S.log.take 0) (S.drv i).2.1, (S.drv i).2.2) = S.dr := by
    simp only [List.take_zero, flDur]
    apply List.ext_getElem?
    intro k
    by_cases e : k = i
    · subst e; rw [List.getElem?_set_self hi]; simp [DS.drv, hi]
    · rw [List.getElem?_set_ne (Ne.symm e)]
  unfold DS.flTo
  rw [this]
theorem flTo_drv (S : DS) (i k : Nat) (hi : i < S.dr.length) : (S.flTo i k).drv i = ((S.drv i).1, flDur (S.drv i).1 i (S.log.take k) (S.drv i).2.1, (S.drv i).2.2) := by
  show (S.dr.set i _)[i]?.getD _ = _
  rw [List.getElem?_set_self hi]
  rfl
theorem take_snoc' {α : Type} (l : List α) (k : Nat) (r : α) (h : l[k]? = some r) : l.take (k + 1) = l.take k ++ [r] := by
  obtain ⟨hk, e⟩ := List.getElem?_eq_some_iff.1 h
  rw [List.take_succ_eq_append_getElem hk, e]
theorem flTo_step (S : DS) (i k : Nat) (hi : i < S.dr.length) (r : Nat × Nat × Nat) (hr : S.log[k]? = some r) :
    (r.1 = i → S.flTo i (k + 1) = (S.flTo i k).setDur i r.2.1 ((S.drv i).1[r.2.1]?.getD 0)) ∧ (r.1 ≠ i → S.flTo i (k + 1) = S.flTo i k) := by
  constructor
  · intro e
    unfold DS.setDur
    rw [flTo_drv S i k hi]
    unfold DS.flTo
    simp only [take_snoc' S.log k r hr, flDur_snoc, if_pos e, List.set_set]
  · intro e
    unfold DS.flTo
    simp only [take_snoc' S.log k r hr, flDur_snoc, if_neg e]
theorem DS.Ok.flush {S : DS} (h : S.Ok) (i : Nat) (hi : i < S.dr.length) : ({ S.flTo i S.log.length with log := others i S.log } : DS).Ok := by
  have hm : S.drv i ∈ S.dr := by unfold DS.drv; rw [List.getElem?_eq_getElem hi]; exact List.getElem_mem _
  have hd := h.drv _ hm
  refine ⟨by simp [DS.flTo]; exact h.nd, ?_, ?_, h.fuse, h.wr⟩
  · intro x hx
    simp only [DS.flTo] at hx
    rcases List.mem_or_eq_of_mem_set hx with hx | rfl
    · exact h.drv x hx
    · exact ⟨hd.1, flDur_w _ hd.1 _ _ _ hd.2.1, by rw [flDur_length]; exact hd.2.2.1, hd.2.2.2⟩
  · intro r hr
    have hr' := h.log r (List.mem_filter.1 hr).1
    refine ⟨by simp [DS.flTo]; exact hr'.1, ?_, hr'.2.2⟩
    show r.2.1 < ((S.flTo i S.log.length).drv r.1).1.length
    by_cases e : r.1 = i
    · rw [e, flTo_drv S i _ hi]; rw [← e]; exact hr'.2.1
    · have : (S.flTo i S.log.length).drv r.1 = S.drv r.1 := by
        rw [drv_set (S.flTo i S.log.length) S.dr i r.1 _ hi rfl, if_neg e]; rfl
      rw [this]; exact hr'.2.1
def FlushP (W : World) (F : Nat → Prop) (g : Nat) (S : DS) (d : Int) (e : Ending) (W' : World) : Prop :=
  e = .returned (.int .i64 (S.chkF d)) ∧ ∃ F', DskAt W' F' g (S.flush d) ∧ Turn F F' W W'
theorem others_snoc (i : Nat) (l : List (Nat × Nat × Nat)) (r : Nat × Nat × Nat) : (r.1 = i → others i (l ++ [r]) = others i l) ∧ (r.1 ≠ i → others i (l ++ [r]) = others i l ++ [r]) := by
  unfold others
  constructor
  · intro e; simp [List.filter_append, e]
  · intro e; simp [List.filter_append, e]
theorem others_le (i : Nat) (l : List (Nat × Nat × Nat)) : (others i l).length ≤ l.length := List.length_filter_le _ _
theorem Fr.trans_ge {F G : Nat → Prop} {A B C : World} (h : Fr F A B) (k : Fr G B C) (hg : ∀ j, G j → A.heap.size ≤ j) : Fr F A C :=
  ⟨k.os.trans h.os, k.tape.trans h.tape, k.output.trans h.output, Nat.le_trans h.size k.size, fun j hj hn => (k.block j (Nat.lt_of_lt_of_le hj h.size) (fun hc => by have := hg j hc; omega)).trans (h.block j hj hn)⟩
theorem fr_grown {A B : World} {v : Value} (h : A.grownBy B v.ownBlock) : Fr (fun j => v.ownBlock = some j) A B := ⟨h.os, h.tape, h.output, h.size, fun j hj hn => h.block j hj (fun e => hn e.symm)⟩
theorem DLay.x_of {W : World} {g : Nat} {S : DS} {dv lv : Value} {mb : Nat} {zs : List Dl} (h : DLay W g S dv lv mb zs) {i : Nat} {z : Dl} (hz : zs[i]? = some z) : z.x = S.drv i := by
  unfold DS.drv
  rw [h.dr, List.getElem?_map, hz]
  rfl
structure FlI (W : World) (F : Nat → Prop) (g B t6 i : Nat) (S : DS) (dv lv : Value) (mb : Nat) (nb db : Nat) (w1 wr : World) (k : Nat) (v7 : Value) : Prop where
  lay : ∃ zs z, DLay wr g (S.flTo i k) dv lv mb zs ∧ DIn (fun j => F j ∧ j < B) g dv lv mb zs ∧ zs[i]? = some z ∧ z.nb = nb ∧ z.db = db
  rest : wr.ownsRow B 127 3 v7 (others i (S.log.take k)).length (rcells (others i (S.log.take k)))
  box : Cs wr t6 116 #[.slice (some ⟨nb, 0, none⟩) (S.drv i).1.length (S.drv i).1.length, .slice (some ⟨db, 0, none⟩) (S.drv i).1.length (S.drv i).1.length, .bool (S.drv i).2.2]
  fr : Fr F W wr
  size : B ≤ wr.heap.size
set_option maxRecDepth 100000 in
set_option maxHeartbeats 2000000 in
theorem aflush_any (W : World) (F : Nat → Prop) (g : Nat) (S : DS) (d : Int) (h : DskAt W F g S) (hlog : S.log.length ≤ 1000000) :
    Calls Tryz.prog 179 #[.pointer (some ⟨g, 0, none⟩), .int .i64 d] W (FlushP W F g S d) := by
  have hb0 := (Below.refl _ W).alloc (Nat.le_refl _) (.cells (fv g [ckPow S, ckLoc S d, ckMis S d]).toArray 237)
  have HDk := Lib.hid (h.keep hb0)
  have HB := Lib.hid (Cs.new W 237 (fv g [ckPow S, ckLoc S d, ckMis S d]).toArray)
  have HE : Hid (firstE ([ckPow S, ckLoc S d, ckMis S d].map (·.2)) = S.chkF d) := rfl
  have hgW := h.lt.1
  go_enter Tryz.func179, Tryz.ntmps179
  go_wp2_with fail
  refine (check_any _ g W.heap.size 3 d 0 [ckPow S, ckLoc S d, ckMis S d] rfl (by omega) HB.out (answers3 HDk.out)).mono ?_
  rintro e w1 ⟨rfl, hb1⟩
  rw [HE.out]
  have hB1 := hb0.trans (hb1.mono hb0.size)
  have HD1 := Lib.hid (HDk.out.keep hb1)
  clear HB HDk hb1
  by_cases h0 : S.chkF d = 0
  · have HC0 := Lib.hid h0
    rw [h0]
    have hloc := cLoc_zero (firstE_all3 h0).2.1
    obtain ⟨i, rfl⟩ : ∃ i : Nat, d = (i : Int) := ⟨d.toNat, by omega⟩
    have hi : i < S.dr.length := by omega
    obtain ⟨ho, dv, lv, mb, zs, hl, hin⟩ := HD1.out
    have HL := Lib.hid hl
    have hnd := ho.nd
    obtain ⟨b, cap, z, rfl, hcl, hz, hzm, hx, c0, c1, c2⟩ := hl.one i hi
    obtain ⟨x0, x1, x2, x3, x4, x5⟩ := hl.cells
    obtain ⟨Al, cl, rfl⟩ := own_form hl.log
    have hdrv := ho.drv z.x (by rw [hl.dr]; exact List.mem_map_of_mem hzm)
    have hlen : z.x.2.1.length = z.x.1.length := hdrv.2.2.1
    rw [hlen] at c1
    rw [hx] at c0 c1 c2 hdrv
    have HO := Lib.hid ho
    have HIN := Lib.hid hin
    have HZ := Lib.hid hz
    have HX := Lib.hid hx
    generalize hnn : S.dr.length = nd at *
    have HND := Lib.hid hnn
    have t1 : (0 : Int) ≤ (i : Int) := by omega
    have t2 : (i : Int) < (nd : Int) := by omega
    have hgw1 : g < w1.heap.size := HL.out.arr.lt
    clear h0 x1 x3 x4 x5 hl hin ho hz hzm hx hlen hloc hnn
    have hWB : W.heap.size ≤ w1.heap.size := hB1.size
    have HST : Hid (FlI W F g w1.heap.size w1.heap.size i S (.slice (some ⟨b, 0, none⟩) nd cap) (.slice Al S.log.length cl) mb z.nb z.db w1 (w1.alloc (.cells #[.slice (some ⟨z.nb, 0, none⟩) (S.drv i).1.length (S.drv i).1.length, .slice (some ⟨z.db, 0, none⟩) (S.drv i).1.length (S.drv i).1.length, .bool (S.drv i).2.2] 116)) 0 (.slice none 0 0)) := by
      refine ⟨⟨zs, z, ?_, ((HIN.out.lt HL.out).mono (fun j hj => hj)), HZ.out, rfl, rfl⟩, World.ownsRow_nil _ _ _ _, Cs.new w1 _ _, (Fr.of_below hB1).alloc _, by simp⟩
      rw [flTo_zero S i (by rw [HND.out]; exact hi)]
      exact HL.out.keep ((Below.refl _ _).alloc (Nat.le_refl _) _)
    generalize hn' : S.log.length = n at *
    have HN := Lib.hid hn'
    generalize hm : (S.drv i).1.length = m at *
    have HM := Lib.hid hm
    have hMsz : m ≤ 65536 := hdrv.2.2.2
    have HDL := Lib.hid hdrv.2.2.1
    clear hn' hm hdrv
    generalize hdms : (S.drv i).2.2 = dms at *
    have HDM := Lib.hid hdms
    clear hdms
    go_wp2_with fail
    clear x0 x2 c0 c1 c2
    go_loopw [7, 35] (fun s7 s35 wr => ∃ (k : Nat) (v7 : Value), k ≤ n ∧ s7 = v7 ∧ s35 = .int .i64 k ∧ FlI W F g w1.heap.size w1.heap.size i S (.slice (some ⟨b, 0, none⟩) nd cap) (.slice Al n cl) mb z.nb z.db w1 wr k v7) (fun _ s35 _ => n - (intOf s35).toNat)
    case atStart => exact ⟨0, _, Nat.zero_le _, rfl, rfl, HST.out⟩
    case round =>
      obtain ⟨k, v7, hk, rfl, rfl, hI⟩ := hrel
      have HI := Lib.hid hI
      clear hI HST
      by_cases hlt : k < n
      · obtain ⟨zs', z', hlay, hin', hz', hnb, hdb⟩ := HI.out.lay
        have hx' := hlay.x_of hz'
        rw [flTo_drv S i k (by rw [HND.out]; exact hi)] at hx'
        obtain ⟨r, hr⟩ : ∃ r, S.log[k]? = some r := ⟨_, List.getElem?_eq_getElem (by rw [HN.out]; exact hlt)⟩
        have hrl := HO.out.log r (List.mem_of_getElem? hr)
        have hst := flTo_step S i k (by rw [HND.out]; exact hi) r hr
        have hos := others_snoc i (S.log.take k) r
        rw [← take_snoc' S.log k r hr] at hos
        have hlg : wr.ownsRow 0 127 3 (.slice Al n cl) n (rcells S.log) := by
          have := hlay.log
          rw [show (S.flTo i k).log = S.log from rfl, HN.out] at this
          exact this
        obtain ⟨lb, cl', hAl, _, hlblt⟩ := hlg.form (by omega)
        obtain ⟨rfl, rfl⟩ : Al = some ⟨lb, 0, none⟩ ∧ cl = cl' := by injection hAl with p _ q; exact ⟨p, q⟩
        obtain ⟨d0, d1, d2⟩ := rcells_at S.log k r hr
        have e0 := (hlg.cellAt (k * 3) (by omega)).trans d0
        have e1 := (hlg.cellAt (k * 3 + 1) (by omega)).trans d1
        have e2 := (hlg.cellAt (k * 3 + 2) (by omega)).trans d2
        obtain ⟨ri, ra, rv⟩ := r
        dsimp only at e0 e1 e2 hrl hst hos
        obtain ⟨A7, c7, hv7⟩ := own_form HI.out.rest
        subst hv7
        have hsz := HI.out.size
        have hLV := hlay.keep ((Below.refl _ _).alloc (Nat.le_refl _) (.cells #[.int .i64 (ri : Int), .int .i64 (ra : Int), .int .u64 (rv : Int)] 127))
        have hRV := HI.out.rest.alloc (.cells #[.int .i64 (ri : Int), .int .i64 (ra : Int), .int .u64 (rv : Int)] 127)
        have hBV := HI.out.box.alloc (.cells #[.int .i64 (ri : Int), .int .i64 (ra : Int), .int .u64 (rv : Int)] 127)
        have hFV := HI.out.fr.alloc (.cells #[.int .i64 (ri : Int), .int .i64 (ra : Int), .int .u64 (rv : Int)] 127)
        have hTV := Cs.new wr 127 #[.int .i64 (ri : Int), .int .i64 (ra : Int), .int .u64 (rv : Int)]
        have hsV : w1.heap.size ≤ (wr.alloc (.cells #[.int .i64 (ri : Int), .int .i64 (ra : Int), .int .u64 (rv : Int)] 127)).heap.size := by simp; omega
        have HLV := Lib.hid hLV
        have HRV := Lib.hid hRV
        have HBV := Lib.hid hBV
        have HTV := Lib.hid hTV
        have HR := Lib.hid hr
        have HST := Lib.hid hst
        have HOS := Lib.hid hos
        have HX' := Lib.hid hx'
        have HZ' := Lib.hid hz'
        have HNB := Lib.hid hnb
        have HDB := Lib.hid hdb
        have t5 : (k : Int) < (n : Int) := by omega
        have t6 : (0 : Int) ≤ (k : Int) := by omega
        clear hlay hr hlg hAl d0 d1 d2 hst hos hx' hz' hnb hdb hLV hRV hBV hTV HI
        by_cases hri : ri = i
        · subst ri
          have hra : ra < m := by rw [← HM.out]; exact hrl.2.1
          have hzm' := List.mem_of_getElem? HZ'.out
          have hcn := HLV.out.now z' hzm'
          have hcd := HLV.out.dur z' hzm'
          rw [HNB.out, HX'.out] at hcn
          rw [HDB.out, HX'.out] at hcd
          have cn := hcn.cell ra
          rw [List.getElem?_toArray, uv_at _ _ (by show ra < (S.drv i).1.length; rw [HM.out]; exact hra)] at cn
          have cd := hcd.cell ra
          rw [List.getElem?_toArray, uv_at _ _ (by show ra < (flDur _ _ _ _).length; rw [flDur_length, HDL.out]; exact hra)] at cd
          have fd := hcd.free ra
          have c6a := HBV.out.cell 0
          have c6b := HBV.out.cell 1
          rw [HM.out] at c6a c6b
          have c9 := HTV.out.cell 1
          simp only [List.getElem?_toArray, List.getElem?_cons_zero, List.getElem?_cons_succ] at c6a c6b c9
          have hL1 := (HLV.out.keep (Below.refl _ _).drew).dur_set i ra ((S.drv i).1[ra]?.getD 0) z' HZ'.out (by rw [HX'.out, flTo_drv S i k (by rw [HND.out]; exact hi)])
          rw [← (HST.out.1 rfl), HDB.out] at hL1
          have hzl : i < zs'.length := (List.getElem?_eq_some_iff.1 HZ'.out).1
          have hdx := hin'.dur z' hzm'
          rw [HDB.out] at hdx
          have hNew : FlI W F g w1.heap.size w1.heap.size i S (.slice (some ⟨b, 0, none⟩) nd cap) (.slice (some ⟨lb, 0, none⟩) n cl) mb z.nb z.db w1 ((wr.alloc (.cells #[.int .i64 (i : Int), .int .i64 (ra : Int), .int .u64 (rv : Int)] 127)).drew.setCell ⟨z.db, ra, none⟩ (.int .u64 (((S.drv i).1[ra]?.getD 0 : Nat) : Int))) (k + 1) (.slice A7 (others i (S.log.take k)).length c7) := by
            refine ⟨⟨_, _, hL1, hin'.setz i z' _ HZ'.out rfl HDB.out.symm, List.getElem?_set_self hzl, HNB.out, rfl⟩, ?_, ?_, ?_, ?_⟩
            · rw [HOS.out.1 rfl]
              exact own_fr (World.ownsRow.drew HRV.out) (fr_set _ z.db ra _) (cs_own_ne (W := (wr.alloc (.cells #[.int .i64 (i : Int), .int .i64 (ra : Int), .int .u64 (rv : Int)] 127)).drew) hcd HRV.out (by decide))
            · exact Cs.fr (W := (wr.alloc (.cells #[.int .i64 (i : Int), .int .i64 (ra : Int), .int .u64 (rv : Int)] 127)).drew) HBV.out (fr_set _ z.db ra _) (Ne.symm (cs_ne HBV.out hcd (by decide)))
            · exact (hFV.drew).set (.inl hdx.1) _
            · simpa using hsV
          have HNEW := Lib.hid hNew
          generalize (S.drv i).1[ra]?.getD 0 = v0 at *
          generalize (flDur _ _ _ _)[ra]?.getD 0 = v1 at cd
          have t7 : (0 : Int) ≤ (ra : Int) := by omega
          have t8 : (ra : Int) < (m : Int) := by omega
          clear hcn hcd hL1 hNew hdx hrl
          go_wp2_with fail
          refine wp_region_mix 13 13 (by kernel_rfl) (by kernel_rfl) (fun w' => w'.cell? ⟨w1.heap.size, 0, none⟩ = some (.slice (some ⟨z.nb, 0, none⟩) m m) ∧ w'.cell? ⟨w1.heap.size, 1, none⟩ = some (.slice (some ⟨z.db, 0, none⟩) m m) ∧ w'.cell? ⟨wr.heap.size, 1, none⟩ = some (.int .i64 (ra : Int)) ∧ w'.cell? ⟨z.nb, ra, none⟩ = some (.int .u64 (v0 : Int))) ⟨c6a, c6b, c9, cn⟩ ?_
          simp only [List.take_succ_cons, List.take_zero, List.drop_succ_cons, List.drop_zero]
          iterate 13
            refine ⟨?_, Or.inl ⟨by rfl, fun W' hS' => ?_⟩, fun _ _ _ h => h, ?_⟩
            rotate_left
            · obtain ⟨hs1, hs2, hs3, hs4⟩ := hS'
              go_simp
              with_reducible rfl
            simp only [Act.put, List.setIfInBounds_toArray, List.set_cons_zero, List.set_cons_succ]
          show wpSeqT _ _ _ _ _ _ _ _ _
          refine wpSeqT_list _ _ _ _ (by omega) ?_
          clear c6a c6b c9 cn
          go_wp2_with fail
          go_roundw
          case rel => exact ⟨k + 1, _, by omega, rfl, by go_num, HNEW.out⟩
          case measure => simp [intOf]; omega
        · have hb1 : ((ri : Int) == (i : Int)) = false := by simp; omega
          have hb2 : (ri == i) = false := by simpa using hri
          have hol := others_le i (S.log.take k)
          rw [List.length_take] at hol
          obtain ⟨ir, hir, hz0, hz1, hz2⟩ := info_parts record_info
          go_upto_region 11 with (fail)
          generalize hV : (wr.alloc (.cells #[.int .i64 (ri : Int), .int .i64 (ra : Int), .int .u64 (rv : Int)] 127)) = V at HLV HRV HBV HTV hFV hsV ⊢
          clear hV
          obtain ⟨c90, c91, c92⟩ : V.cell? ⟨wr.heap.size, 0, none⟩ = some (.int .i64 (ri : Int)) ∧ V.cell? ⟨wr.heap.size, 1, none⟩ = some (.int .i64 (ra : Int)) ∧ V.cell? ⟨wr.heap.size, 2, none⟩ = some (.int .u64 (rv : Int)) := ⟨HTV.out.cell 0, HTV.out.cell 1, HTV.out.cell 2⟩
          go_wp2_with (at_builtin; refine wpList_append_reads _ (by rfl) _ _ _ (by rfl) w1.heap.size 127 ir _ 3 24 Tryz.underlying111 hir hz0 hz1 hz2 rfl (by omega) (.slice A7 (others i (S.log.take k)).length c7) (others i (S.log.take k)).length (rcells (others i (S.log.take k))) (by rfl) (HRV.out.alloc _) (some ⟨V.heap.size, 0, none⟩) 1 1 [.int .i64 (ri : Int), .int .i64 (ra : Int), .int .u64 (rv : Int)] (by rfl) (by rfl) (Reads.new _ _ _) (by simp [Value.oneCell']) (by simp only [maxLen]; omega) (by omega) (by simp; omega) ?_; intro v5 w5 hown5 hg5 hat5)
          have hgf := fr_grown hg5
          have hbase := own_base HRV.out
          have hbx := HBV.out.alloc (.cells #[.int .i64 (ri : Int), .int .i64 (ra : Int), .int .u64 (rv : Int)] 127)
          have hL5 := (HLV.out.keep ((Below.refl _ _).alloc (Nat.le_refl _) (.cells #[.int .i64 (ri : Int), .int .i64 (ra : Int), .int .u64 (rv : Int)] 127))).frIn hin' hgf (fun j hj e => by have := hbase j e; omega)
          have hs5 := hg5.size
          rw [World.size_alloc] at hs5
          have HNEW : Hid (FlI W F g w1.heap.size w1.heap.size i S (.slice (some ⟨b, 0, none⟩) nd cap) (.slice (some ⟨lb, 0, none⟩) n cl) mb z.nb z.db w1 w5 (k + 1) v5) := by
            refine ⟨⟨zs', z', ?_, hin', HZ'.out, HNB.out, HDB.out⟩, ?_, ?_, ?_, by omega⟩
            · rw [HST.out.2 hri]; exact hL5
            · rw [HOS.out.2 hri, rcells_snoc, List.length_append]; exact hown5
            · exact hbx.fr hgf (fun e => cs_own_ne hbx (HRV.out.alloc _) (by decide) _ e rfl)
            · exact (hFV.alloc _).trans_ge hgf (fun j e => Nat.le_trans hWB (hbase j e))
          clear hgf hbase hbx hL5 hs5 hown5 hg5 hat5
          go_roundw
          case rel => exact ⟨k + 1, v5, by omega, rfl, by go_num, HNEW.out⟩
          case measure => simp [intOf]; omega
      · have hkn : k = n := by omega
        subst hkn
        obtain ⟨zs', z', hlay, hin', hz', hnb, hdb⟩ := HI.out.lay
        obtain ⟨A7, c7, hv7⟩ := own_form HI.out.rest
        subst hv7
        have hrest := own_lower HI.out.rest (Nat.zero_le _)
        have HLf := Lib.hid (hlay.log_set (l' := others i (S.log.take k)) (World.grownBy.refl wr _) hrest).1
        have f2 := hlay.arr.free 2
        have x2 := hlay.cells.2.2.1
        have hbase := own_base HI.out.rest
        have hFf := HI.out.fr.set (b := g) (i := 2) (.inl hin'.arr.1) (.slice A7 (others i (S.log.take k)).length c7)
        have HTK : Hid (S.log.take k = S.log) := by show _ = _; rw [← HN.out]; exact List.take_length
        have HR : Hid (S.flush (i : Int) = { S.flTo i k with log := others i (S.log.take k) }) := by
          show _ = _
          unfold DS.flush
          rw [if_neg (by simpa using HC0.out), HTK.out, Int.toNat_natCast, HN.out]
        have hOk := HO.out.flush i (by rw [HND.out]; exact hi)
        rw [HN.out] at hOk
        have hdf : DIn (wider F W) g (.slice (some ⟨b, 0, none⟩) nd cap) (.slice A7 (others i (S.log.take k)).length c7) mb zs' := by
          have hw := (hin'.mono (fun j hj => hj.1)).wider W
          exact ⟨hw.arr, hw.map, hw.drv, fun j hj => .inr (Nat.le_trans hWB (hbase j hj)), hw.now, hw.dur⟩
        have HDF := Lib.hid hdf
        generalize hol : (others i (S.log.take k)).length = ol at *
        clear hlay hrest HI hbase hdf hol
        go_wp2_with fail
        go_ret
        exact ⟨by rw [HC0.out]; rfl, wider F W, by rw [HR.out]; exact ⟨by rw [HTK.out]; exact hOk, _, _, mb, _, HLf.out, HDF.out⟩, turn_wider hFf⟩
  · have hz0 : (S.chkF d != 0) = true := by simpa using h0
    have HW : Hid (S.flush d = S) := by show _ = _; unfold DS.flush; rw [if_pos h0]
    clear h0
    go_wp2_with fail
    go_ret
    exact ⟨rfl, F, by rw [HW.out]; exact HD1.out, Turn.of_below hB1⟩
end Go.Proofs.YtogchafnnkajfaaGreat
namespace Go.Proofs.YtogchafnnkajfaaGreat
set_option linter.unusedVariables false
open Go.RowKit
attribute [local go_sem] Oper.semAt_some
theorem madeCells_u64 (n : Nat) : madeCells #[Value.int .u64 0] (n * 1) = (uv (List.replicate n 0)).toArray := by
  apply Array.ext'
  rw [toList_madeCells_one]
  simp [uv]
theorem run_make_u64 (n : Nat) (hn : n ≤ 1000000) (w : World) : (Instr.makeSlice 29 (.int .i64 (n : Int)) (.int .i64 (n : Int))).run Tryz.prog w = .ok (.slice (some ⟨w.heap.size, 0, none⟩) n n) (w.alloc (.cells (uv (List.replicate n 0)).toArray 26)) := by
  obtain ⟨i0, hi0, hz0, hz1, hz2⟩ := info_parts u64_info
  have := run_make (P := Tryz.prog) w 29 26 i0 _ Tryz.underlying29 hi0 hz0 .i64 .i64 (n : Int) (n : Int) (by omega) (Int.le_refl _) (by rw [hz2]; omega) (by omega)
  rw [this]
  simp only [Int.toNat_natCast, hz1]
  rw [show (Value.int IntKind.u64 0).cells = #[Value.int .u64 0] from rfl, madeCells_u64]
def zd (n : Nat) : List Nat × List Nat × Bool := (List.replicate n 0, List.replicate n 0, false)
theorem dcells_snoc (zs : List Dl) (z : Dl) : dcells (zs ++ [z]) = dcells zs ++ z.cells := by simp [dcells]
theorem drive_info : (Tryz.prog.info? 116).map (fun i => (i.zero, i.size, i.bytes)) = some (some (.agg #[.slice none 0 0, .slice none 0 0, .bool false]), 3, 56) := by kernel_rfl
theorem DLay.push {A w5 : World} {g : Nat} {S : DS} {dv dv' lv : Value} {mb : Nat} {zs : List Dl} (h : DLay A g S dv lv mb zs) (z : Dl) (hn : Cs A z.nb 26 (uv z.x.1).toArray) (hd : Cs A z.db 26 (uv z.x.2.1).toArray)
    (hne : z.nb ≠ z.db) (hap : ∀ y ∈ zs, y.nb ≠ z.nb ∧ y.nb ≠ z.db ∧ y.db ≠ z.nb ∧ y.db ≠ z.db) (hg : A.grownBy w5 dv.ownBlock) (hr : w5.ownsRow 0 116 3 dv' (S.dr.length + 1) (dcells zs ++ z.cells)) :
    DLay (w5.setCell ⟨g, 0, none⟩ dv') g { S with dr := S.dr ++ [z.x] } dv' lv mb (zs ++ [z]) := by
  have hf := fr_grown hg
  have ha : Cs w5 g 113 #[dv, .map (some mb), lv, .int .i64 S.fuse, .bool S.down, .int .i64 S.wr] := h.arr.fr hf (fun e => cs_own_ne h.arr h.drv (by decide) g e rfl)
  have hm1 : w5.heap[mb]? = some (.map #[] 0) := (hf.block mb (map_lt h.map) (fun e => own_map_ne h.drv h.map mb e rfl)).trans h.map
  have hl1 : w5.ownsRow 0 127 3 lv S.log.length (rcells S.log) := own_fr h.log hf (fun b hb e => own_own_ne h.log h.drv (by decide) b b hb e rfl)
  have hn1 : ∀ y ∈ zs ++ [z], Cs w5 y.nb 26 (uv y.x.1).toArray := by
    intro y hy
    rcases List.mem_append.1 hy with hy | hy
    · exact (h.now y hy).fr hf (fun e => cs_own_ne (h.now y hy) h.drv (by decide) y.nb e rfl)
    · simp at hy; subst hy; exact hn.fr hf (fun e => cs_own_ne hn h.drv (by decide) _ e rfl)
  have hu1 : ∀ y ∈ zs ++ [z], Cs w5 y.db 26 (uv y.x.2.1).toArray := by
    intro y hy
    rcases List.mem_append.1 hy with hy | hy
    · exact (h.dur y hy).fr hf (fun e => cs_own_ne (h.dur y hy) h.drv (by decide) y.db e rfl)
    · simp at hy; subst hy; exact hd.fr hf (fun e => cs_own_ne hd h.drv (by decide) _ e rfl)
  have hfs := fr_set w5 g 0 dv'
  refine ⟨heap_setCell_same w5 g 0 _ _ dv' ha, ?_, (hfs.block mb (map_lt hm1) (cs_map_ne ha hm1)).trans hm1, own_fr hl1 hfs (cs_own_ne ha hl1 (by decide)), ?_,
    fun y hy => (hn1 y hy).fr hfs (cs_ne ha (hn1 y hy) (by decide)), fun y hy => (hu1 y hy).fr hfs (cs_ne ha (hu1 y hy) (by decide)), ?_⟩
  · show (w5.setCell _ _).ownsRow 0 _ 3 dv' (S.dr ++ [z.x]).length (dcells (zs ++ [z]))
    rw [dcells_snoc, List.length_append]
    exact own_fr hr hfs (cs_own_ne ha hr (by decide))
  · show S.dr ++ [z.x] = _
    rw [List.map_append, h.dr]; rfl
  · rw [List.flatMap_append, List.nodup_append]
    refine ⟨h.apart, by simp [hne], ?_⟩
    intro a ha b hb
    simp only [List.mem_flatMap, List.mem_cons, List.not_mem_nil, or_false] at ha
    obtain ⟨y, hy, ha⟩ := ha
    simp at hb
    have := hap y hy
    rcases ha with rfl | rfl <;> rcases hb with rfl | rfl
    · exact this.1
    · exact this.2.1
    · exact this.2.2.1
    · exact this.2.2.2
def DS.fresh (ns : List Nat) : DS := ⟨ns.map zd, [], 0, false, 0⟩
theorem fresh_ok (ns : List Nat) (h8 : ns.length ≤ 8) (hn : ∀ n ∈ ns, n ≤ 65536) : (DS.fresh ns).Ok := by
  refine ⟨by simp [DS.fresh]; exact h8, ?_, by simp [DS.fresh], ⟨by simp [DS.fresh], by simp [DS.fresh]⟩, by simp [DS.fresh]⟩
  intro x hx
  simp only [DS.fresh, List.mem_map] at hx
  obtain ⟨n, hm, rfl⟩ := hx
  have hw : W64 (List.replicate n 0) := by intro y hy; rw [List.mem_replicate] at hy; omega
  exact ⟨hw, hw, by simp [zd], by simp [zd]; exact hn n hm⟩
def NwI (W wr : World) (ns : List Nat) (k : Nat) : Prop :=
  ∃ dv mb zs, DLay wr (W.heap.size + 1) (DS.fresh (ns.take k)) dv (.slice none 0 0) mb zs ∧ DIn (fun j => W.heap.size ≤ j) (W.heap.size + 1) dv (.slice none 0 0) mb zs ∧ Below W.heap.size W wr
theorem NwI.step {W wr w5 : World} {ns : List Nat} {k n p q : Nat} {dv v5 : Value} {mb : Nat} {zs : List Dl} {o3 : Obj} (hl : DLay wr (W.heap.size + 1) (DS.fresh (ns.take k)) dv (.slice none 0 0) mb zs) (hi : DIn (fun j => W.heap.size ≤ j) (W.heap.size + 1) dv (.slice none 0 0) mb zs) (hb : Below W.heap.size W wr)
    (hn : ns[k]? = some n) (hpq : (p = wr.heap.size ∧ q = wr.heap.size + 1) ∨ (p = wr.heap.size + 1 ∧ q = wr.heap.size))
    (hg : (((wr.alloc (.cells (uv (List.replicate n 0)).toArray 26)).alloc (.cells (uv (List.replicate n 0)).toArray 26)).alloc o3).drew.grownBy w5 dv.ownBlock)
    (hr : w5.ownsRow 0 116 3 v5 ((ns.take k).length + 1) (dcells zs ++ [.slice (some ⟨p, 0, none⟩) n n, .slice (some ⟨q, 0, none⟩) n n, .bool false]))
    (hat : v5.ownBlock = dv.ownBlock ∨ ∀ j, v5.ownBlock = some j → W.heap.size ≤ j) : NwI W (w5.setCell ⟨W.heap.size + 1, 0, none⟩ v5) ns (k + 1) := by
  have hbl : Below wr.heap.size wr (((wr.alloc (.cells (uv (List.replicate n 0)).toArray 26)).alloc (.cells (uv (List.replicate n 0)).toArray 26)).alloc o3).drew := ((((Below.refl _ wr).alloc (Nat.le_refl _) _).alloc (by simp) _).alloc (by simp; omega) _).drew
  have c1 : Cs (((wr.alloc (.cells (uv (List.replicate n 0)).toArray 26)).alloc (.cells (uv (List.replicate n 0)).toArray 26)).alloc o3).drew wr.heap.size 26 (uv (List.replicate n 0)).toArray := ((Cs.new wr _ _).alloc _).alloc _
  have c2 : Cs (((wr.alloc (.cells (uv (List.replicate n 0)).toArray 26)).alloc (.cells (uv (List.replicate n 0)).toArray 26)).alloc o3).drew (wr.heap.size + 1) 26 (uv (List.replicate n 0)).toArray := by
    have := (Cs.new (wr.alloc (.cells (uv (List.replicate n 0)).toArray 26)) 26 (uv (List.replicate n 0)).toArray).alloc o3
    rw [World.size_alloc] at this; exact this
  generalize (((wr.alloc _).alloc _).alloc o3).drew = A at *
  have hlt : ∀ y ∈ zs, y.nb < wr.heap.size ∧ y.db < wr.heap.size := fun y hy => ⟨(hl.now y hy).lt, (hl.dur y hy).lt⟩
  have hsz := hb.size
  have hcp : Cs A p 26 (uv (List.replicate n 0)).toArray ∧ Cs A q 26 (uv (List.replicate n 0)).toArray := by
    rcases hpq with ⟨rfl, rfl⟩ | ⟨rfl, rfl⟩
    · exact ⟨c1, c2⟩
    · exact ⟨c2, c1⟩
  have hP := (hl.keep hbl).push ⟨p, q, zd n⟩ hcp.1 hcp.2 (by show p ≠ q; omega) (fun y hy => by have := hlt y hy; exact ⟨by show _ ≠ p; omega, by show _ ≠ q; omega, by show _ ≠ p; omega, by show _ ≠ q; omega⟩) hg
    (by show w5.ownsRow 0 _ 3 v5 ((DS.fresh (ns.take k)).dr.length + 1) _; simp only [DS.fresh, List.length_map, Dl.cells, zd, List.length_replicate]; exact hr)
  refine ⟨v5, mb, zs ++ [⟨p, q, zd n⟩], ?_, ⟨hi.arr, hi.map, ?_, hi.log, ?_, ?_⟩, ?_⟩
  · have e : DS.fresh (ns.take (k + 1)) = { DS.fresh (ns.take k) with dr := (DS.fresh (ns.take k)).dr ++ [zd n] } := by
      simp only [DS.fresh, take_snoc' ns k n hn, List.map_append, List.map_cons, List.map_nil]
    rw [e]
    exact hP
  · intro j hj
    rcases hat with e | e
    · rw [e] at hj; exact hi.drv j hj
    · exact e j hj
  · intro y hy
    rcases List.mem_append.1 hy with hy | hy
    · exact hi.now y hy
    · simp at hy; subst hy; show W.heap.size ≤ p; omega
  · intro y hy
    rcases List.mem_append.1 hy with hy | hy
    · exact hi.dur y hy
    · simp at hy; subst hy; show W.heap.size ≤ q; omega
  · have h1 := hb.trans (hbl.mono hsz)
    have h2 : Below W.heap.size A w5 := (fr_grown hg).below h1.size (fun j hj => hi.drv j hj)
    exact (h1.trans h2).setCell (p := ⟨W.heap.size + 1, 0, none⟩) (show W.heap.size ≤ W.heap.size + 1 by omega) _
theorem reads_new3 (w : World) (o o' : Obj) (cs : Array Value) (t : TypeId) : Reads (((w.alloc o).alloc o').alloc (.cells cs t)).drew (some ⟨w.heap.size + 1 + 1, 0, none⟩) cs.toList := by
  have := Reads.new ((w.alloc o).alloc o') cs t
  rw [World.size_alloc, World.size_alloc] at this
  exact this
theorem below_new3 (w : World) (o o' o3 : Obj) : Below w.heap.size w (((w.alloc o).alloc o').alloc o3).drew := ((((Below.refl _ w).alloc (Nat.le_refl _) _).alloc (by simp) _).alloc (by simp; omega) _).drew
theorem DLay.drv_cell {wr A w5 : World} {g : Nat} {S : DS} {dv lv : Value} {mb : Nat} {zs : List Dl} (h : DLay wr g S dv lv mb zs) (hA : Below wr.heap.size wr A) (hg : A.grownBy w5 dv.ownBlock) : w5.cell? ⟨g, 0, none⟩ = some dv ∧ w5.frozen? ⟨g, 0, none⟩ = false := by
  have ha := h.keep hA
  have := ha.arr.grown hg (fun e => cs_own_ne ha.arr ha.drv (by decide) g e.symm rfl)
  exact ⟨this.cell 0, this.free 0⟩
def NewP (W : World) (ns : List Nat) (e : Ending) (W' : World) : Prop :=
  ∃ g, e = .returned (.tuple #[.pointer (some ⟨g, 0, none⟩), .int .i64 0]) ∧ DskAt W' (fun j => W.heap.size ≤ j) g (DS.fresh ns) ∧ Below W.heap.size W W'
set_option maxRecDepth 100000 in
set_option maxHeartbeats 2000000 in
theorem dnew_any (W : World) (A : Option Addr) (N c : Nat) (ns : List Nat) (hA : Reads W A (iv (ns.map (Int.ofNat ·)))) (hN : ns.length = N) (h8 : N ≤ 8) (hn : ∀ n ∈ ns, 1 ≤ n ∧ n ≤ 65536) :
    Calls Tryz.prog 66 #[.slice A N c] W (NewP W ns) := by
  have h8' : ¬ (8 : Int) < (N : Int) := by omega
  have hmm := @run_makeMap Tryz.prog
  have HN := Lib.hid hN
  have HA := Lib.hid hA
  clear hN hA
  go_enter Tryz.func66, Tryz.ntmps66
  have hbA : Below W.heap.size W ((W.alloc (.map #[] 0)).alloc (.cells #[.slice none 0 0, .map (some W.heap.size), .slice none 0 0, .int .i64 0, .bool false, .int .i64 0] 113)) := ((Below.refl _ W).alloc (Nat.le_refl _) _).alloc (by simp) _
  have H0 : Hid (NwI W ((W.alloc (.map #[] 0)).alloc (.cells #[.slice none 0 0, .map (some W.heap.size), .slice none 0 0, .int .i64 0, .bool false, .int .i64 0] 113)) ns 0) := by
    have c1 := Cs.new (W.alloc (.map #[] 0)) 113 #[.slice none 0 0, .map (some W.heap.size), .slice none 0 0, .int .i64 0, .bool false, .int .i64 0]
    rw [World.size_alloc] at c1
    have hm : ((W.alloc (.map #[] 0)).alloc (.cells #[.slice none 0 0, .map (some W.heap.size), .slice none 0 0, .int .i64 0, .bool false, .int .i64 0] 113)).heap[W.heap.size]? = some (.map #[] 0) :=
      (((Below.refl _ _).alloc (Nat.le_refl _) _).block W.heap.size (by simp)).trans (heap_alloc_new W _)
    exact ⟨.slice none 0 0, W.heap.size, [], ⟨c1, World.ownsRow_nil _ _ _ _, hm, World.ownsRow_nil _ _ _ _, rfl, by simp, by simp, by simp⟩,
      ⟨by show W.heap.size ≤ _; omega, Nat.le_refl _, by simp [Value.ownBlock], by simp [Value.ownBlock], by simp, by simp⟩, hbA⟩
  go_wp2_with fail
  clear hmm
  go_loopw [15] (fun s wr => ∃ k : Nat, k ≤ N ∧ s = .int .i64 k ∧ NwI W wr ns k) (fun s _ => N - (intOf s).toNat)
  case atStart => exact ⟨0, Nat.zero_le _, rfl, H0.out⟩
  case round =>
    obtain ⟨k, hk, rfl, hI⟩ := hrel
    have HI := Lib.hid hI
    clear hI H0 hbA
    by_cases hlt : k < N
    · obtain ⟨dv, mb, zs, hl, hi, hb⟩ := HI.out
      obtain ⟨n, hnk⟩ : ∃ n, ns[k]? = some n := ⟨_, List.getElem?_eq_getElem (by rw [HN.out]; exact hlt)⟩
      have hn1 := hn n (List.mem_of_getElem? hnk)
      obtain ⟨ab, ao, rfl, hab, hac⟩ := HA.out.i (by rw [List.length_map, HN.out]; omega)
      have hc := (hb.cell (p := ⟨ab, ao + k, none⟩) hab).trans (hac k (by rw [List.length_map, HN.out]; exact hlt))
      rw [List.getElem?_map, hnk] at hc
      change wr.cell? _ = some (.int .i64 (n : Int)) at hc
      obtain ⟨Ad, cd, rfl⟩ := own_form hl.drv
      have hlen : (DS.fresh (ns.take k)).dr.length = k := by simp only [DS.fresh, List.length_map, List.length_take, HN.out]; omega
      have x0 := hl.cells.1
      have f0 : wr.frozen? ⟨W.heap.size + 1, 0, none⟩ = false := hl.arr.free 0
      rw [hlen] at x0
      have hdr := hl.drv
      rw [hlen] at hdr
      have hlk := hl
      rw [hlen] at hlk
      have HLK := Lib.hid hlk
      clear hlk
      have HL := Lib.hid hl
      have hik := hi
      rw [hlen] at hik
      have HIN := Lib.hid hik
      clear hik
      have HBW := Lib.hid hb
      have HDR := Lib.hid hdr
      have HNK := Lib.hid hnk
      have HLEN := Lib.hid hlen
      have hgb : W.heap.size + 1 < wr.heap.size := hl.arr.lt
      have t1 : ¬ (n : Int) < 1 := by omega
      have t2 : ¬ (65536 : Int) < (n : Int) := by omega
      have t3 : (k : Int) < (N : Int) := by omega
      have t4 : (0 : Int) ≤ (k : Int) := by omega
      have hmk := run_make_u64 n (by omega)
      obtain ⟨ir, hir, hz0, hz1, hz2⟩ := info_parts drive_info
      clear hl hi hb hnk hac hdr hlen HI
      go_wp2_with fail
      clear hc
      have xa : ∀ o, (wr.alloc o).cell? ⟨W.heap.size + 1, 0, none⟩ = some (.slice Ad k cd) := fun o => (World.cell?_alloc_lt wr o ⟨W.heap.size + 1, 0, none⟩ hgb).trans x0
      have xb : ∀ o o', ((wr.alloc o).alloc o').cell? ⟨W.heap.size + 1, 0, none⟩ = some (.slice Ad k cd) := fun o o' => (World.cell?_alloc_lt _ o' ⟨W.heap.size + 1, 0, none⟩ (by simp; omega)).trans (xa o)
      have xc : ∀ o o' o3, (((wr.alloc o).alloc o').alloc o3).cell? ⟨W.heap.size + 1, 0, none⟩ = some (.slice Ad k cd) := fun o o' o3 => (World.cell?_alloc_lt _ o3 ⟨W.heap.size + 1, 0, none⟩ (by simp; omega)).trans (xb o o')
      go_region_law ((refine step_append_reads _ (by rfl) (.tmp 29) (.tmp 35) _ (by rfl) 0 116 ir _ 3 56 Tryz.underlying109 hir hz0 hz1 hz2 rfl (by omega) (.slice Ad k cd) k (dcells zs) (by rfl) (own_keepB HDR.out (below_new3 _ _ _ _)) (some ⟨wr.heap.size + 1 + 1, 0, none⟩) 1 1 _ (by rfl) (by rfl) (reads_new3 _ _ _ _ _) (by simp [Value.oneCell']) (by simp only [maxLen]; omega) (by omega) (Nat.zero_le _) ?_; intro v5 w5 hown5 hg5 hat5; obtain ⟨A5, c5, hv5⟩ := own_form hown5; subst hv5; obtain ⟨y5, z5⟩ := HLK.out.drv_cell (below_new3 _ _ _ _) hg5))
      all_goals
        have hst : NwI W (w5.setCell ⟨W.heap.size + 1, 0, none⟩ (.slice A5 (k + 1) c5)) ns (k + 1) := by
          have htl : (ns.take k).length = k := by rw [List.length_take, HN.out]; omega
          have hat : (Value.slice A5 (k + 1) c5).ownBlock = (Value.slice Ad k cd).ownBlock ∨ ∀ j, (Value.slice A5 (k + 1) c5).ownBlock = some j → W.heap.size ≤ j := by
            rcases hat5 with e | e
            · exact .inl e
            · refine .inr (fun j hj => ?_)
              rw [e] at hj
              injection hj with hj
              rw [← hj]
              simp; omega
          first
            | (refine NwI.step HLK.out HIN.out HBW.out HNK.out (.inl ⟨rfl, rfl⟩) hg5 ?_ hat; rw [htl]; exact hown5)
            | (refine NwI.step HLK.out HIN.out HBW.out HNK.out (.inr ⟨rfl, rfl⟩) hg5 ?_ hat; rw [htl]; exact hown5)
        have HST := Lib.hid hst
        clear hst hown5 hg5 hat5 y5 z5 xa xb xc
        go_wp2_with fail
        go_roundw
        case rel => exact ⟨k + 1, by omega, by go_num, HST.out⟩
        case measure => simp [intOf]; omega
    · have hkn : k = N := by omega
      subst hkn
      obtain ⟨dv, mb, zs, hl, hi, hb⟩ := HI.out
      have HL := Lib.hid hl
      have htk : ns.take k = ns := by rw [← HN.out]; exact List.take_length
      rw [htk] at HL
      have hok := fresh_ok ns (by rw [HN.out]; exact h8) (fun n hm => (hn n hm).2)
      clear hl htk HI
      go_wp2_with fail
      go_ret2
      exact ⟨_, rfl, ⟨hok, dv, _, mb, zs, HL.out, hi⟩, hb⟩
end Go.Proofs.YtogchafnnkajfaaGreat
namespace Go.Proofs.YtogchafnnkajfaaGreat
set_option linter.unusedVariables false
open Go.RowKit
attribute [local go_sem] Oper.semAt_some
theorem delfunc_nil (W : World) (Al : Option Addr) (cl : Nat) (fv : Value) : Calls Tryz.prog 70 #[.slice Al 0 cl, fv] W fun e w' => e = .returned (.slice Al 0 cl) ∧ W = w' := by
  go_enter Tryz.func70, Tryz.ntmps70
  go_wp2_with fail
  have h : Calls Tryz.prog 118 #[.slice Al 0 cl, fv] W fun e w' => e = .returned (.int .i64 (-1)) ∧ W = w' := by
    go_enter Tryz.func118, Tryz.ntmps118
    go_wp2_with fail
    go_loop [8] (fun s => s = .int .i64 0) (fun s => 1)
    case atStart => rfl
    case round =>
      obtain rfl := hrel
      go_wp2_with fail
      go_ret
      exact ⟨rfl, rfl⟩
  refine h.mono ?_
  rintro e w' ⟨rfl, rfl⟩
  go_wp2_with fail
  go_ret
  exact ⟨rfl, rfl⟩
theorem fr_row (W : World) (g : Nat) (cs : Array Value) : Fr (fun j => j = g) W (W.setRow g cs) :=
  ⟨rfl, rfl, rfl, by simp, fun j _ hj => setRow_other W g j cs hj⟩
theorem DLay.now_fr {W W' : World} {g : Nat} {S : DS} {dv lv : Value} {mb : Nat} {zs : List Dl} (h : DLay W g S dv lv mb zs) (i : Nat) (z : Dl) (hz : zs[i]? = some z) (l : List Nat) (hl : l.length = z.x.1.length)
    (hf : Fr (fun j => j = z.nb) W W') (hc : Cs W' z.nb 26 (uv l).toArray) :
    DLay W' g { S with dr := S.dr.set i (l, (S.drv i).2.1, (S.drv i).2.2) } dv lv mb (zs.set i ⟨z.nb, z.db, (l, z.x.2.1, z.x.2.2)⟩) := by
  have hx := h.x_of hz
  have hzm := List.mem_of_getElem? hz
  have hcz := h.now z hzm
  have hcell : (⟨z.nb, z.db, (l, z.x.2.1, z.x.2.2)⟩ : Dl).cells = z.cells := by simp [Dl.cells, hl]
  have hlen : ({ S with dr := S.dr.set i (l, (S.drv i).2.1, (S.drv i).2.2) } : DS).dr.length = S.dr.length := by simp
  have hil : i < zs.length := (List.getElem?_eq_some_iff.1 hz).1
  refine ⟨h.arr.fr hf (Ne.symm (cs_ne h.arr hcz (by decide))), ?_, (hf.block mb (map_lt h.map) (cs_map_ne hcz h.map)).trans h.map, own_fr h.log hf (cs_own_ne hcz h.log (by decide)), ?_, ?_, ?_, ?_⟩
  · rw [hlen, dcells_set zs i z _ hz hcell]
    exact own_fr h.drv hf (cs_own_ne hcz h.drv (by decide))
  · simp only [List.map_set, ← hx]
    rw [h.dr]
  · intro y hy
    obtain ⟨k, hk, hkl⟩ := set_mem _ _ _ _ hy
    by_cases e : k = i
    · subst e
      rw [List.getElem?_set_self hil] at hk
      injection hk with hk
      subst hk
      exact hc
    · rw [List.getElem?_set_ne (Ne.symm e)] at hk
      exact (h.now y (List.mem_of_getElem? hk)).fr hf ((nodup_apart h.apart k i y z hk hz).2 e).1
  · intro y hy
    obtain ⟨k, hk, hkl⟩ := set_mem _ _ _ _ hy
    by_cases e : k = i
    · subst e
      rw [List.getElem?_set_self hil] at hk
      injection hk with hk
      subst hk
      exact (h.dur z hzm).fr hf (Ne.symm (nodup_apart h.apart k k z z hz hz).1)
    · rw [List.getElem?_set_ne (Ne.symm e)] at hk
      exact (h.dur y (List.mem_of_getElem? hk)).fr hf (Ne.symm (nodup_apart h.apart i k z y hz hk).1)
  · have := h.apart
    rwa [← apart_set zs i z ⟨z.nb, z.db, (l, z.x.2.1, z.x.2.2)⟩ hz rfl rfl] at this
theorem DLay.dur_fr {W W' : World} {g : Nat} {S : DS} {dv lv : Value} {mb : Nat} {zs : List Dl} (h : DLay W g S dv lv mb zs) (i : Nat) (z : Dl) (hz : zs[i]? = some z) (l : List Nat) (hl : l.length = z.x.2.1.length)
    (hf : Fr (fun j => j = z.db) W W') (hc : Cs W' z.db 26 (uv l).toArray) :
    DLay W' g { S with dr := S.dr.set i ((S.drv i).1, l, (S.drv i).2.2) } dv lv mb (zs.set i ⟨z.nb, z.db, (z.x.1, l, z.x.2.2)⟩) := by
  have hx := h.x_of hz
  have hzm := List.mem_of_getElem? hz
  have hcz := h.dur z hzm
  have hcell : (⟨z.nb, z.db, (z.x.1, l, z.x.2.2)⟩ : Dl).cells = z.cells := by simp [Dl.cells, hl]
  have hlen : ({ S with dr := S.dr.set i ((S.drv i).1, l, (S.drv i).2.2) } : DS).dr.length = S.dr.length := by simp
  have hil : i < zs.length := (List.getElem?_eq_some_iff.1 hz).1
  refine ⟨h.arr.fr hf (Ne.symm (cs_ne h.arr hcz (by decide))), ?_, (hf.block mb (map_lt h.map) (cs_map_ne hcz h.map)).trans h.map, own_fr h.log hf (cs_own_ne hcz h.log (by decide)), ?_, ?_, ?_, ?_⟩
  · rw [hlen, dcells_set zs i z _ hz hcell]
    exact own_fr h.drv hf (cs_own_ne hcz h.drv (by decide))
  · simp only [List.map_set, ← hx]
    rw [h.dr]
  · intro y hy
    obtain ⟨k, hk, hkl⟩ := set_mem _ _ _ _ hy
    by_cases e : k = i
    · subst e
      rw [List.getElem?_set_self hil] at hk
      injection hk with hk
      subst hk
      exact (h.now z hzm).fr hf (nodup_apart h.apart k k z z hz hz).1
    · rw [List.getElem?_set_ne (Ne.symm e)] at hk
      exact (h.now y (List.mem_of_getElem? hk)).fr hf (nodup_apart h.apart k i y z hk hz).1
  · intro y hy
    obtain ⟨k, hk, hkl⟩ := set_mem _ _ _ _ hy
    by_cases e : k = i
    · subst e
      rw [List.getElem?_set_self hil] at hk
      injection hk with hk
      subst hk
      exact hc
    · rw [List.getElem?_set_ne (Ne.symm e)] at hk
      exact (h.dur y (List.mem_of_getElem? hk)).fr hf ((nodup_apart h.apart k i y z hk hz).2 e).2
  · have := h.apart
    rwa [← apart_set zs i z ⟨z.nb, z.db, (z.x.1, l, z.x.2.2)⟩ hz rfl rfl] at this
theorem row_full (cur : Array Value) (cs : List Value) (h : cs.length = cur.size) : (cur.toList.take 0 ++ (cs ++ cur.toList.drop (0 + cs.length))).toArray = cs.toArray := by
  rw [List.take_zero, List.nil_append, Nat.zero_add, List.drop_of_length_le (by simp [h]), List.append_nil]
def DS.load (S : DS) (i : Nat) (l : List Nat) : DS := { S with dr := S.dr.set i (l, l, (S.drv i).2.2) }
theorem DS.Ok.load {S : DS} (h : S.Ok) (i : Nat) (l : List Nat) (hi : i < S.dr.length) (hl : l.length = (S.drv i).1.length) (hw : W64 l) (hlog : S.log = []) : (S.load i l).Ok := by
  have hm : S.drv i ∈ S.dr := by unfold DS.drv; rw [List.getElem?_eq_getElem hi]; exact List.getElem_mem _
  refine ⟨by simp [DS.load]; exact h.nd, ?_, by simp [DS.load, hlog], h.fuse, h.wr⟩
  intro x hx
  simp only [DS.load] at hx
  rcases List.mem_or_eq_of_mem_set hx with hx | rfl
  · exact h.drv x hx
  · exact ⟨hw, hw, rfl, by show l.length ≤ _; rw [hl]; exact (h.drv _ hm).2.2.2⟩
theorem load_eq (S : DS) (i : Nat) (l : List Nat) (hi : i < S.dr.length) :
    ({ ({ S with dr := S.dr.set i (l, (S.drv i).2.1, (S.drv i).2.2) } : DS) with dr := ({ S with dr := S.dr.set i (l, (S.drv i).2.1, (S.drv i).2.2) } : DS).dr.set i ((({ S with dr := S.dr.set i (l, (S.drv i).2.1, (S.drv i).2.2) } : DS).drv i).1, l, (({ S with dr := S.dr.set i (l, (S.drv i).2.1, (S.drv i).2.2) } : DS).drv i).2.2) } : DS) = S.load i l := by
  have h : ({ S with dr := S.dr.set i (l, (S.drv i).2.1, (S.drv i).2.2) } : DS).drv i = (l, (S.drv i).2.1, (S.drv i).2.2) := by
    show (S.dr.set i _)[i]?.getD _ = _
    rw [List.getElem?_set_self hi]
    rfl
  rw [h]
  simp only [DS.load, List.set_set]
def LoadP (W : World) (F : Nat → Prop) (g : Nat) (S : DS) (i : Nat) (l : List Nat) (e : Ending) (W' : World) : Prop :=
  e = .returned (.int .i64 0) ∧ DskAt W' F g (S.load i l) ∧ Fr F W W'
set_option maxRecDepth 100000 in
set_option maxHeartbeats 2000000 in
theorem aload_any (W : World) (F : Nat → Prop) (g i : Nat) (S : DS) (A : Option Addr) (c n : Nat) (l : List Nat) (h : DskAt W F g S) (hi : i < S.dr.length) (hlog : S.log = []) (hA : Reads W A (uv l)) (hn : l.length = n) (hn1 : 1 ≤ n)
    (hln : n = (S.drv i).1.length) (hw : W64 l) (hAF : ∀ b off, A = some ⟨b, off, none⟩ → ¬ F b) :
    Calls Tryz.prog 40 #[.pointer (some ⟨g, 0, none⟩), .int .i64 (i : Int), .slice A n c] W (LoadP W F g S i l) := by
  have hb0 := (Below.refl _ W).alloc (Nat.le_refl _) (.cells #[.int .i64 (i : Int)] 3)
  have hBX := Lib.hid (Cs.new W 3 #[.int .i64 (i : Int)])
  have hgW := h.lt.1
  obtain ⟨ho, dv, lv, mb, zs, hl, hin⟩ := h.keep hb0
  have HL := Lib.hid hl
  have HO := Lib.hid ho
  have HIN := Lib.hid hin
  have HLOG := Lib.hid hlog
  have hnd := ho.nd
  obtain ⟨b, cap, z, rfl, hcl, hz, hzm, hx, c0, c1, c2⟩ := hl.one i hi
  have hdrv := ho.drv z.x (by rw [hl.dr]; exact List.mem_map_of_mem hzm)
  have hlen : z.x.2.1.length = z.x.1.length := hdrv.2.2.1
  have hzn : z.x.1.length = n := by rw [hx, ← hln]
  have hn64 : n ≤ 65536 := by have := hdrv.2.2.2; omega
  obtain ⟨Al, cl, rfl⟩ := own_form hl.log
  obtain ⟨x0, x1, x2, x3, x4, x5⟩ := hl.cells
  have hll : S.log.length = 0 := by rw [hlog]; rfl
  rw [hll] at x2
  have HZ := Lib.hid hz
  have HX := Lib.hid hx
  have HZN := Lib.hid hzn
  have HLEN := Lib.hid hlen
  have HLN := Lib.hid hln
  rw [hlen] at c1
  rw [hzn] at c0 c1
  obtain ⟨ab, ao, rfl, hab, hac⟩ := hA.u (by omega)
  have hwl : ¬ F ab := hAF ab ao rfl
  have HN := Lib.hid hn
  have HAC := Lib.hid hac
  have HA := Lib.hid hA
  generalize hndn : S.dr.length = nd at *
  have HND := Lib.hid hndn
  generalize hms : z.x.2.2 = ms at *
  have t1 : (0 : Int) ≤ (i : Int) := by omega
  have t2 : (i : Int) < (nd : Int) := by omega
  have d1 : decide ((i : Int) < 0) = false := by simp
  have d2 : decide ((nd : Int) ≤ (i : Int)) = false := by simp; omega
  have d3 : decide (nd ≤ i) = false := by simp; omega
  have d4 : ((n : Int) != (n : Int)) = false := by simp
  have b0 : (W.alloc (.cells #[.int .i64 (i : Int)] 3)).cell? ⟨W.heap.size, 0, none⟩ = some (.int .i64 (i : Int)) := hBX.out.cell 0
  clear x1 x3 x4 x5 hl hin ho hz hzm hx hlen hdrv hzn hn hac hA hlog hll hndn hms h hln
  go_enter Tryz.func40, Tryz.ntmps40
  go_wp2_with fail
  go_quiet (fail)
  go_wp2_with fail
  have HL1 := Lib.hid (HL.out.keep (below_drewN (Below.refl _ _) nq))
  have HBX1 : Hid (Cs ((W.alloc (.cells #[.int .i64 (i : Int)] 3)).drewN nq) W.heap.size 3 #[.int .i64 (i : Int)]) := hBX.out
  have hB1 := below_drewN hb0 nq
  have y0 : ((W.alloc (.cells #[.int .i64 (i : Int)] 3)).drewN nq).cell? ⟨g, 0, none⟩ = some (.slice (some ⟨b, 0, none⟩) nd cap) := x0
  have y1 : ((W.alloc (.cells #[.int .i64 (i : Int)] 3)).drewN nq).cell? ⟨W.heap.size, 0, none⟩ = some (.int .i64 (i : Int)) := b0
  have y2 : ((W.alloc (.cells #[.int .i64 (i : Int)] 3)).drewN nq).cell? ⟨b, i * 3, none⟩ = some (.slice (some ⟨z.nb, 0, none⟩) n n) := c0
  have y3 : ((W.alloc (.cells #[.int .i64 (i : Int)] 3)).drewN nq).cell? ⟨b, i * 3 + 1, none⟩ = some (.slice (some ⟨z.db, 0, none⟩) n n) := c1
  have y4 : ((W.alloc (.cells #[.int .i64 (i : Int)] 3)).drewN nq).cell? ⟨b, i * 3 + 2, none⟩ = some (.bool ms) := c2
  clear hBX hb0 HL x0 b0 c0 c1 c2 x2
  generalize ((W.alloc _).drewN nq) = V1 at HL1 HBX1 hB1 y0 y1 y2 y3 y4 ⊢
  refine wp_region_mix 7 8 (by kernel_rfl) (by kernel_rfl) (fun w' => w'.cell? ⟨g, 0, none⟩ = some (.slice (some ⟨b, 0, none⟩) nd cap) ∧ w'.cell? ⟨W.heap.size, 0, none⟩ = some (.int .i64 (i : Int)) ∧ w'.cell? ⟨b, i * 3, none⟩ = some (.slice (some ⟨z.nb, 0, none⟩) n n) ∧ w'.cell? ⟨b, i * 3 + 1, none⟩ = some (.slice (some ⟨z.db, 0, none⟩) n n) ∧ w'.cell? ⟨b, i * 3 + 2, none⟩ = some (.bool ms)) ⟨y0, y1, y2, y3, y4⟩ ?_
  simp only [List.take_succ_cons, List.take_zero, List.drop_succ_cons, List.drop_zero]
  iterate 7
    refine ⟨?_, Or.inl ⟨by rfl, fun W' hS' => ?_⟩, fun _ _ _ h => h, ?_⟩
    rotate_left
    · obtain ⟨hs1, hs2, hs3, hs4, hs5⟩ := hS'
      go_simp
      with_reducible rfl
    simp only [Act.put, List.setIfInBounds_toArray, List.set_cons_zero, List.set_cons_succ]
  show wpSeqT _ _ _ _ _ _ _ _ _
  refine wpSeqT_step (fun K hK => ?_)
  go_simp
  refine hK _ _ (fun _ => ⟨(World.cell?_alloc_lt _ _ _ (World.block_lt_of_cell? _ _ y0)).trans y0, (World.cell?_alloc_lt _ _ _ (World.block_lt_of_cell? _ _ y1)).trans y1, (World.cell?_alloc_lt _ _ _ (World.block_lt_of_cell? _ _ y2)).trans y2, (World.cell?_alloc_lt _ _ _ (World.block_lt_of_cell? _ _ y3)).trans y3, (World.cell?_alloc_lt _ _ _ (World.block_lt_of_cell? _ _ y4)).trans y4⟩) ?_
  clear hK K
  refine wpSeqT_list _ _ _ _ (by omega) ?_
  clear y0 y2 y3 y4
  have hbl : Below V1.heap.size V1 (V1.alloc (.cells #[.slice (some ⟨z.nb, 0, none⟩) n n, .slice (some ⟨z.db, 0, none⟩) n n, .bool ms] 116)).drew := ((Below.refl _ V1).alloc (Nat.le_refl _) _).drew
  have HL2 := Lib.hid (HL1.out.keep hbl)
  have HT2 := Lib.hid ((Cs.new V1 116 #[.slice (some ⟨z.nb, 0, none⟩) n n, .slice (some ⟨z.db, 0, none⟩) n n, .bool ms]))
  have HX2 := Lib.hid (HBX1.out.below hbl HBX1.out.lt)
  have hB2 := hB1.trans (hbl.mono hB1.size)
  have hV1W : W.heap.size < V1.heap.size := HBX1.out.lt
  obtain ⟨i0, hi0, hz0, hz1, hz2⟩ := info_parts u64_info
  have hzm := List.mem_of_getElem? HZ.out
  have hgl := HIN.out.arr
  go_upto_region 6 with (fail)
  generalize hV2 : (V1.alloc (.cells #[.slice (some ⟨z.nb, 0, none⟩) n n, .slice (some ⟨z.db, 0, none⟩) n n, .bool ms] 116)).drew = V2 at HL2 HX2 hB2 ⊢
  have HT2 : Hid (Cs V2 V1.heap.size 116 #[.slice (some ⟨z.nb, 0, none⟩) n n, .slice (some ⟨z.db, 0, none⟩) n n, .bool ms]) := by rw [← hV2]; exact HT2.out
  clear hV2 hbl y1
  have hcn : V2.heap[z.nb]? = some (.cells (uv z.x.1).toArray 26 (0, 0)) := HL2.out.now z hzm
  have hln1 : z.x.1.length = (uv l).length := by rw [HZN.out, uv_length, HN.out]
  have hsrc2 : ∀ (j : Nat) v, (uv l)[j]? = some v → V2.cell? ((⟨ab, ao, none⟩ : Addr).add j) = some v := by
    intro j v hj
    have hjl : j < l.length := by rw [← uv_length]; exact (List.getElem?_eq_some_iff.1 hj).1
    rw [Addr.add_lit, hB2.cell (p := ⟨ab, ao + j, none⟩) hab, HAC.out j hjl, ← hj, uv_at l j hjl]
  have hnbF := HIN.out.now z hzm
  have hdbF := HIN.out.dur z hzm
  have habn : ab ≠ z.nb := fun e => hwl (e ▸ hnbF)
  have habd : ab ≠ z.db := fun e => hwl (e ▸ hdbF)
  obtain ⟨q0, q1, q2⟩ : V2.cell? ⟨V1.heap.size, 0, none⟩ = some (.slice (some ⟨z.nb, 0, none⟩) n n) ∧ V2.cell? ⟨V1.heap.size, 1, none⟩ = some (.slice (some ⟨z.db, 0, none⟩) n n) ∧ V2.cell? ⟨V1.heap.size, 2, none⟩ = some (.bool ms) := ⟨HT2.out.cell 0, HT2.out.cell 1, HT2.out.cell 2⟩
  clear q2
  have hcs : (uv l).length = Nat.min n n := by rw [uv_length, HN.out]; exact (Nat.min_self n).symm
  have hfit : 0 + (uv l).length ≤ (uv z.x.1).toArray.size := by rw [List.size_toArray, uv_length z.x.1, ← hln1]; omega
  have hfull : (uv l).length = (uv z.x.1).toArray.size := by rw [List.size_toArray, uv_length z.x.1, ← hln1]
  have hone : (Tryz.prog.info? 26).map (·.size) = some 1 := by rw [hi0, Option.map_some, hz1]
  -- behind the first copy
  have hne2 : V1.heap.size ≠ z.nb := Ne.symm (cs_ne HT2.out hcn (by decide))
  have HL3 := Lib.hid (HL2.out.now_fr i z HZ.out l (by rw [HN.out, HZN.out]) (fr_row V2 z.nb (uv l).toArray) (setRow_heap V2 z.nb _ _ _ _ hcn))
  have HT3 := Lib.hid (HT2.out.fr (fr_row V2 z.nb (uv l).toArray) hne2)
  have HX3 := Lib.hid (HX2.out.fr (fr_row V2 z.nb (uv l).toArray) (fun e => by have := cs_ne HX2.out hcn (by decide); omega))
  have hq1 : (V2.setRow z.nb (uv l).toArray).cell? ⟨V1.heap.size, 1, none⟩ = some (.slice (some ⟨z.db, 0, none⟩) n n) := HT3.out.cell 1
  have hil : i < zs.length := (List.getElem?_eq_some_iff.1 HZ.out).1
  have hz3 : (zs.set i ⟨z.nb, z.db, (l, z.x.2.1, z.x.2.2)⟩)[i]? = some ⟨z.nb, z.db, (l, z.x.2.1, z.x.2.2)⟩ := List.getElem?_set_self hil
  have HZ3 := Lib.hid hz3
  have hcd : (V2.setRow z.nb (uv l).toArray).heap[z.db]? = some (.cells (uv z.x.2.1).toArray 26 (0, 0)) := HL3.out.dur ⟨z.nb, z.db, (l, z.x.2.1, z.x.2.2)⟩ (List.mem_of_getElem? hz3)
  have hsrc3 : ∀ (j : Nat) v, (uv l)[j]? = some v → (V2.setRow z.nb (uv l).toArray).cell? ((⟨ab, ao, none⟩ : Addr).add j) = some v := by
    intro j v hj
    rw [← hsrc2 j v hj, Addr.add_lit]
    exact (fr_row V2 z.nb (uv l).toArray).cell (b := ab) (Nat.lt_of_lt_of_le hab hB2.size) habn
  have hln2 : z.x.2.1.length = (uv l).length := by rw [HLEN.out, HZN.out, uv_length, HN.out]
  have hfit2 : 0 + (uv l).length ≤ (uv z.x.2.1).toArray.size := by rw [List.size_toArray, uv_length z.x.2.1, ← hln2]; omega
  have hfull2 : (uv l).length = (uv z.x.2.1).toArray.size := by rw [List.size_toArray, uv_length z.x.2.1, ← hln2]
  -- behind the second
  have hne3 : V1.heap.size ≠ z.db := Ne.symm (cs_ne HT3.out hcd (by decide))
  have hL4 := HL3.out.dur_fr i _ HZ3.out l (by show l.length = z.x.2.1.length; rw [HN.out, HLEN.out, HZN.out]) (fr_row _ z.db (uv l).toArray) (setRow_heap _ z.db _ _ _ _ hcd)
  rw [load_eq S i l (by rw [HND.out]; exact hi)] at hL4
  rw [show S.log.length = 0 by rw [HLOG.out]; rfl] at hL4
  have HX4 := Lib.hid (HX3.out.fr (fr_row _ z.db (uv l).toArray) (fun e => by have := cs_ne HX3.out hcd (by decide); omega))
  have HL4 := Lib.hid hL4
  have hlg4 : (S.load i l).log.length = 0 := by show S.log.length = 0; rw [HLOG.out]; rfl
  have x42 := hL4.cells.2.2.1
  have f42 : ((V2.setRow z.nb (uv l).toArray).setRow z.db (uv l).toArray).frozen? ⟨g, 2, none⟩ = false := hL4.arr.free 2
  have hFr4 : Fr F W ((V2.setRow z.nb (uv l).toArray).setRow z.db (uv l).toArray) := ((Fr.of_below hB2).trans ((fr_row V2 z.nb (uv l).toArray).mono (fun j _ e => e ▸ hnbF))).trans ((fr_row _ z.db (uv l).toArray).mono (fun j _ e => e ▸ hdbF))
  have hIn4 := (HIN.out.setz i z ⟨z.nb, z.db, (l, z.x.2.1, z.x.2.2)⟩ HZ.out rfl rfl).setz i _ ⟨z.nb, z.db, (l, l, z.x.2.2)⟩ HZ3.out rfl rfl
  rw [show S.log.length = 0 by rw [HLOG.out]; rfl] at hIn4
  have HIN4 := Lib.hid hIn4
  have HF4 := Lib.hid hFr4
  have hlog4 := hL4.log
  have HLG := Lib.hid hlog4
  have HLL : Hid (S.log.length = 0) := by show _ = _; rw [HLOG.out]; rfl
  clear hz3 hL4 hIn4 hFr4 hlog4 hlg4
  go_wp2_with (first | ((with_reducible refine wpList_copy_own (o := ⟨some 36, _, _, _, _, _⟩) rfl (.tmp 34) (.tmp 35) 29 29 rfl 26 Tryz.underlying29 hone z.nb 0 n n ⟨ab, ao, none⟩ n c rfl rfl (uv z.x.1).toArray 26 hcn (uv l) hcs hsrc2 hfit (uv_one l) ?_); rw [row_full _ _ hfull]) | ((with_reducible refine wpList_copy_own (o := ⟨some 40, _, _, _, _, _⟩) rfl (.tmp 38) (.tmp 39) 29 29 rfl 26 Tryz.underlying29 hone z.db 0 n n ⟨ab, ao, none⟩ n c rfl rfl (uv z.x.2.1).toArray 26 hcd (uv l) hcs hsrc3 hfit2 (uv_one l) ?_); rw [row_full _ _ hfull2]))
  refine (delfunc_nil _ Al cl _).mono ?_
  rintro e w' ⟨rfl, rfl⟩
  clear hcn hcs hsrc2 hfit hfull hcd hsrc3 hfit2 hfull2 hq1 q0 q1 HT2 HT3 HX2 HX3 HL2 HL3 HL1 HBX1
  have HL5 := Lib.hid (HL4.out.log_set (l' := (S.load i l).log) (World.grownBy.refl _ _) HLG.out).1
  have HX5 := Lib.hid (HX4.out.fr (fr_set _ g 2 (.slice Al 0 cl)) (by show ¬ _ = _; omega))
  have HF5 := Lib.hid (HF4.out.set (b := g) (i := 2) (.inl hgl) (.slice Al 0 cl))
  generalize ((V2.setRow z.nb (uv l).toArray).setRow z.db (uv l).toArray) = V4 at HL4 HX4 x42 f42 HF4 HLG HL5 HX5 HF5 ⊢
  go_wp2_with fail
  clear x42 f42 HL4 HX4 HF4 HLG
  generalize (V4.setCell _ _) = V5 at HL5 HX5 HF5 ⊢
  go_loopw [52] (fun s wr => ∃ k q : Nat, k ≤ n ∧ s = .int .i64 k ∧ wr = V5.drewN q) (fun s _ => n - (intOf s).toNat)
  case atStart => exact ⟨0, 0, Nat.zero_le _, rfl, rfl⟩
  case round =>
    obtain ⟨k, q, hk, rfl, rfl⟩ := hrel
    by_cases hlt : k < n
    · have t5 : (k : Int) < (n : Int) := by omega
      have y1 : (V5.drewN q).cell? ⟨g, 1, none⟩ = some (.map (some mb)) := HL5.out.cells.2.1
      have y2 : (V5.drewN q).cell? ⟨W.heap.size, 0, none⟩ = some (.int .i64 (i : Int)) := HX5.out.cell 0
      have hdel := fun ty => run_bad_delete (V5.drewN (q + 1)) mb (i : Int) (k : Int) HL5.out.map ty
      go_wp2_with fail
      refine wp_region_mix 7 7 (by kernel_rfl) (by kernel_rfl) (fun w' => w'.cell? ⟨g, 1, none⟩ = some (.map (some mb)) ∧ w'.cell? ⟨W.heap.size, 0, none⟩ = some (.int .i64 (i : Int))) ⟨y1, y2⟩ ?_
      simp only [List.take_succ_cons, List.take_zero, List.drop_succ_cons, List.drop_zero]
      iterate 7
        refine ⟨?_, Or.inl ⟨by rfl, fun W' hS' => ?_⟩, fun _ _ _ h => h, ?_⟩
        rotate_left
        · obtain ⟨hs1, hs2⟩ := hS'
          go_simp
          with_reducible rfl
        simp only [Act.put, List.setIfInBounds_toArray, List.set_cons_zero, List.set_cons_succ]
      show wpSeqT _ _ _ _ _ _ _ _ _
      refine wpSeqT_list _ _ _ _ (by omega) ?_
      go_wp2_with fail
      go_roundw
      case rel => exact ⟨k + 1, q + 1, by omega, by go_num, rfl⟩
      case measure => simp [intOf]; omega
    · obtain hkn : k = n := by omega
      subst hkn
      have hok := HO.out.load i l (by rw [HND.out]; exact hi) (by rw [HN.out, ← HLN.out]) hw HLOG.out
      have HL6 := Lib.hid (HL5.out.keep (below_drewN (Below.refl _ _) q))
      have HF6 := Lib.hid (HF5.out.drewN q)
      go_wp2_with fail
      go_ret
      exact ⟨rfl, ⟨hok, _, _, mb, _, HL6.out, HIN4.out⟩, HF6.out⟩
end Go.Proofs.YtogchafnnkajfaaGreat
namespace Go.Proofs.YtogchafnnkajfaaGreat
set_option linter.unusedVariables false
open Go.RowKit
attribute [local go_sem] Oper.semAt_some
theorem acount_any (W : World) (F : Nat → Prop) (g : Nat) (S : DS) (h : DskAt W F g S) :
    Calls Tryz.prog 67 #[.pointer (some ⟨g, 0, none⟩)] W fun e w' => e = .returned (.int .i64 (S.dr.length : Int)) ∧ W = w' := by
  obtain ⟨ho, dv, lv, mb, zs, hl, hi⟩ := h
  obtain ⟨x0, x1, x2, x3, x4, x5⟩ := hl.cells
  obtain ⟨A, c, rfl⟩ := own_form hl.drv
  clear x1 x2 x3 x4 x5 hl hi ho
  generalize S.dr.length = n at *
  go_enter Tryz.func67, Tryz.ntmps67
  go_wp2_with fail
  go_ret
  exact ⟨rfl, rfl⟩
theorem image_any (W : World) (F : Nat → Prop) (g i : Nat) (S : DS) (h : DskAt W F g S) (hi : i < S.dr.length) :
    Calls Tryz.prog 27 #[.pointer (some ⟨g, 0, none⟩), .int .i64 (i : Int)] W fun e w' => ∃ v, e = .returned (.tuple #[v, .int .i64 0]) ∧ w'.ownsRow W.heap.size 26 1 v (S.drv i).1.length (uv (S.drv i).1) ∧ Below W.heap.size W w' := by
  obtain ⟨ho, dv, lv, mb, zs, hl, hin⟩ := h
  obtain ⟨x0, x1, x2, x3, x4, x5⟩ := hl.cells
  obtain ⟨b, cap, z, rfl, hcl, hz, hzm, hx, c0, c1, c2⟩ := hl.one i hi
  have hdrv := ho.drv z.x (by rw [hl.dr]; exact List.mem_map_of_mem hzm)
  have hcn := hl.now z hzm
  have hnd := ho.nd
  rw [hx] at hcn c0 hdrv
  have hR : Reads W (some ⟨z.nb, 0, none⟩) (uv (S.drv i).1) := by
    intro hz0
    exact ⟨z.nb, 0, rfl, hcn.lt, fun j v hj => by rw [Nat.zero_add, hcn.cell j, List.getElem?_toArray]; exact hj⟩
  have HR := Lib.hid hR
  have hln := hdrv.2.2.2
  have t1 : (0 : Int) ≤ (i : Int) := by omega
  have t2 : (i : Int) < (S.dr.length : Int) := by omega
  clear x1 x2 x3 x4 x5 hl hin ho hz hzm hx c1 c2 hdrv hcn hR
  generalize S.dr.length = nd at *
  go_enter Tryz.func27, Tryz.ntmps27
  go_wp2_with fail
  refine (clone_any _ _ (S.drv i).1 W HR.out (by omega)).mono ?_
  rintro e w' ⟨v, rfl, ho, hb⟩
  have HO := Lib.hid ho
  clear ho
  go_wp2_with fail
  go_ret2
  exact ⟨v, rfl, HO.out, hb⟩
def SpanAt (W : World) (sp g i n : Nat) : Prop := Cs W sp 178 #[.pointer (some ⟨g, 0, none⟩), .int .i64 (i : Int), .int .i64 0, .int .i64 (n : Int)]
def spanV (sp : Nat) : Value := .iface 176 (.pointer (some ⟨sp, 0, none⟩))
def insB (n a k : Int) : Bool := decide (0 ≤ a ∧ a ≤ n ∧ 0 ≤ k ∧ k ≤ n - a)
theorem inside_any (n a k : Int) (W : World) (h1 : 0 ≤ n) (h2 : n ≤ 100000000) : Calls Tryz.prog 117 #[.int .i64 n, .int .i64 a, .int .i64 k] W fun e w' => e = .returned (.bool (insB n a k)) ∧ W = w' := by
  by_cases q1 : 0 ≤ a
  · by_cases q2 : a ≤ n
    · by_cases q3 : 0 ≤ k
      · by_cases q4 : k ≤ n - a
        · have HI : Hid (insB n a k = true) := by show _ = _; unfold insB; simp; omega
          go_enter Tryz.func117, Tryz.ntmps117
          go_wp2
          go_ret
          exact ⟨by rw [HI.out]; rfl, rfl⟩
        · have HI : Hid (insB n a k = false) := by show _ = _; unfold insB; simp; omega
          have q5 : ¬ k ≤ n - a := q4
          go_enter Tryz.func117, Tryz.ntmps117
          go_wp2
          go_ret
          exact ⟨by rw [HI.out]; rfl, rfl⟩
      · have HI : Hid (insB n a k = false) := by show _ = _; unfold insB; simp; omega
        go_enter Tryz.func117, Tryz.ntmps117
        go_wp2
        go_ret
        exact ⟨by rw [HI.out]; rfl, rfl⟩
    · have HI : Hid (insB n a k = false) := by show _ = _; unfold insB; simp; omega
      go_enter Tryz.func117, Tryz.ntmps117
      go_wp2
      go_ret
      exact ⟨by rw [HI.out]; rfl, rfl⟩
  · have HI : Hid (insB n a k = false) := by show _ = _; unfold insB; simp; omega
    go_enter Tryz.func117, Tryz.ntmps117
    go_wp2
    go_ret
    exact ⟨by rw [HI.out]; rfl, rfl⟩
theorem ssize_any (W : World) (sp g i n : Nat) (h : SpanAt W sp g i n) : Calls Tryz.prog 191 #[.pointer (some ⟨sp, 0, none⟩)] W fun e w' => e = .returned (.int .i64 (n : Int)) ∧ W = w' := by
  have c3 : W.cell? ⟨sp, 3, none⟩ = some (.int .i64 (n : Int)) := Cs.cell h 3
  go_enter Tryz.func191, Tryz.ntmps191
  go_wp2
  go_ret
  exact ⟨rfl, rfl⟩
end Go.Proofs.YtogchafnnkajfaaGreat
namespace Go.Proofs.YtogchafnnkajfaaGreat
set_option linter.unusedVariables false
open Go.RowKit
attribute [local go_sem] Oper.semAt_some
theorem insB_one (n a : Int) : insB n a 1 = decide (0 ≤ a ∧ a < n) := by
  unfold insB
  rw [decide_eq_decide]
  omega
def DS.sE (S : DS) (i n : Nat) (a : Int) : Int := if 0 ≤ a ∧ a < (n : Int) then S.chk (i : Int) a else 1
def DS.sread (S : DS) (i n : Nat) (a : Int) : Nat := if 0 ≤ a ∧ a < (n : Int) then S.read (i : Int) a else 0
def DS.swE (S : DS) (i n : Nat) (a : Int) : Int := if 0 ≤ a ∧ a < (n : Int) then S.writeE (i : Int) a else 1
def DS.swrite (S : DS) (i n : Nat) (a : Int) (v : Nat) : DS := if 0 ≤ a ∧ a < (n : Int) then S.write (i : Int) a v else S
theorem SpanAt.cells {W : World} {sp g i n : Nat} (h : SpanAt W sp g i n) : W.cell? ⟨sp, 0, none⟩ = some (.pointer (some ⟨g, 0, none⟩)) ∧ W.cell? ⟨sp, 1, none⟩ = some (.int .i64 (i : Int)) ∧ W.cell? ⟨sp, 2, none⟩ = some (.int .i64 0) ∧ W.cell? ⟨sp, 3, none⟩ = some (.int .i64 (n : Int)) :=
  ⟨Cs.cell h 0, Cs.cell h 1, Cs.cell h 2, Cs.cell h 3⟩
set_option maxRecDepth 100000 in
set_option maxHeartbeats 1000000 in
theorem sread_any (W : World) (F : Nat → Prop) (g sp i n : Nat) (S : DS) (a : Int) (h : DskAt W F g S) (hs : SpanAt W sp g i n) (hn : n ≤ 65536) :
    Calls Tryz.prog 190 #[.pointer (some ⟨sp, 0, none⟩), .int .i64 a] W fun e w' => e = .returned (.tuple #[.int .u64 (S.sread i n a : Int), .int .i64 (S.sE i n a)]) ∧ Below W.heap.size W w' := by
  obtain ⟨x0, x1, x2, x3⟩ := hs.cells
  have HD := Lib.hid h
  by_cases hin : 0 ≤ a ∧ a < (n : Int)
  · have HI : Hid (insB (n : Int) a 1 = true) := by show _ = _; rw [insB_one]; exact decide_eq_true hin
    have HE : Hid (S.sE i n a = S.chk (i : Int) a) := by show _ = _; unfold DS.sE; rw [if_pos hin]
    have HR : Hid (S.sread i n a = S.read (i : Int) a) := by show _ = _; unfold DS.sread; rw [if_pos hin]
    have e0 : (0 : Int) + a = a := by omega
    have e2 : IntKind.i64.wrap a = a := IntWalk.i64_in _ (by omega)
    clear e0
    go_enter Tryz.func190, Tryz.ntmps190
    go_wp2_with fail
    refine (inside_any (n : Int) a 1 W (by omega) (by omega)).mono ?_
    rintro e w' ⟨rfl, rfl⟩
    rw [HI.out]
    go_wp2_with fail
    go_region_held3 (fun w' => w'.cell? ⟨sp, 0, none⟩ = some (.pointer (some ⟨g, 0, none⟩)) ∧ w'.cell? ⟨sp, 1, none⟩ = some (.int .i64 (i : Int)) ∧ w'.cell? ⟨sp, 2, none⟩ = some (.int .i64 0))
      (first | exact y1 | exact ⟨x0, x1, x2⟩)
      ((go_at_call 180; refine (aread_any W.drew F g S (i : Int) a HD.out.drew).mono ?_; rintro e w1 ⟨rfl, hb1⟩; have y1 : w1.cell? ⟨sp, 0, none⟩ = some (.pointer (some ⟨g, 0, none⟩)) ∧ w1.cell? ⟨sp, 1, none⟩ = some (.int .i64 (i : Int)) ∧ w1.cell? ⟨sp, 2, none⟩ = some (.int .i64 0) := ⟨(hb1.cell (p := ⟨sp, 0, none⟩) (Cs.lt hs)).trans x0, (hb1.cell (p := ⟨sp, 1, none⟩) (Cs.lt hs)).trans x1, (hb1.cell (p := ⟨sp, 2, none⟩) (Cs.lt hs)).trans x2⟩))
    go_wp2_with fail
    go_ret2
    exact ⟨by rw [HE.out, HR.out]; rfl, (Below.refl W.heap.size W).drew.trans hb1⟩
  · have HI : Hid (insB (n : Int) a 1 = false) := by show _ = _; rw [insB_one]; exact decide_eq_false hin
    have HE : Hid (S.sE i n a = 1) := by show _ = _; unfold DS.sE; rw [if_neg hin]
    have HR : Hid (S.sread i n a = 0) := by show _ = _; unfold DS.sread; rw [if_neg hin]
    go_enter Tryz.func190, Tryz.ntmps190
    go_wp2_with fail
    refine (inside_any (n : Int) a 1 W (by omega) (by omega)).mono ?_
    rintro e w' ⟨rfl, rfl⟩
    rw [HI.out]
    go_wp2_with fail
    go_ret2
    exact ⟨by rw [HE.out, HR.out]; rfl, Below.refl _ _⟩
def SWriteP (W : World) (F : Nat → Prop) (g i n : Nat) (S : DS) (a : Int) (v : Nat) (e : Ending) (W' : World) : Prop :=
  e = .returned (.int .i64 (S.swE i n a)) ∧ ∃ F', DskAt W' F' g (S.swrite i n a v) ∧ Turn F F' W W'
set_option maxRecDepth 100000 in
set_option maxHeartbeats 1000000 in
theorem swrite_any (W : World) (F : Nat → Prop) (g sp i n : Nat) (S : DS) (a : Int) (v : Nat) (h : DskAt W F g S) (hs : SpanAt W sp g i n) (hsp : ¬ F sp) (hn : n ≤ 65536) (hv : v < 18446744073709551616) (hlog : S.log.length ≤ 1000000) (hwr : S.wr ≤ 1000000000) :
    Calls Tryz.prog 192 #[.pointer (some ⟨sp, 0, none⟩), .int .i64 a, .int .u64 (v : Int)] W (SWriteP W F g i n S a v) := by
  obtain ⟨x0, x1, x2, x3⟩ := hs.cells
  have HD := Lib.hid h
  by_cases hin : 0 ≤ a ∧ a < (n : Int)
  · have HI : Hid (insB (n : Int) a 1 = true) := by show _ = _; rw [insB_one]; exact decide_eq_true hin
    have HE : Hid (S.swE i n a = S.writeE (i : Int) a) := by show _ = _; unfold DS.swE; rw [if_pos hin]
    have HR : Hid (S.swrite i n a v = S.write (i : Int) a v) := by show _ = _; unfold DS.swrite; rw [if_pos hin]
    have e0 : (0 : Int) + a = a := by omega
    have e2 : IntKind.i64.wrap a = a := IntWalk.i64_in _ (by omega)
    clear e0
    go_enter Tryz.func192, Tryz.ntmps192
    go_wp2_with fail
    refine (inside_any (n : Int) a 1 W (by omega) (by omega)).mono ?_
    rintro e w' ⟨rfl, rfl⟩
    rw [HI.out]
    go_wp2_with fail
    go_region_held3 (fun w' => w'.cell? ⟨sp, 0, none⟩ = some (.pointer (some ⟨g, 0, none⟩)) ∧ w'.cell? ⟨sp, 1, none⟩ = some (.int .i64 (i : Int)) ∧ w'.cell? ⟨sp, 2, none⟩ = some (.int .i64 0))
      (first | exact y1 | exact ⟨x0, x1, x2⟩)
      ((go_at_call 181; refine (awrite_any W.drew F g S (i : Int) a v HD.out.drew hv hlog hwr).mono ?_; rintro e w1 ⟨rfl, F', hd1, ht1⟩; have y1 : w1.cell? ⟨sp, 0, none⟩ = some (.pointer (some ⟨g, 0, none⟩)) ∧ w1.cell? ⟨sp, 1, none⟩ = some (.int .i64 (i : Int)) ∧ w1.cell? ⟨sp, 2, none⟩ = some (.int .i64 0) := ⟨(ht1.1.cell (b := sp) (Cs.lt hs) hsp).trans x0, (ht1.1.cell (b := sp) (Cs.lt hs) hsp).trans x1, (ht1.1.cell (b := sp) (Cs.lt hs) hsp).trans x2⟩))
    go_wp2_with fail
    go_ret
    exact ⟨by rw [HE.out]; rfl, F', by rw [HR.out]; exact hd1, ht1.1.undrew, ht1.2⟩
  · have HI : Hid (insB (n : Int) a 1 = false) := by show _ = _; rw [insB_one]; exact decide_eq_false hin
    have HE : Hid (S.swE i n a = 1) := by show _ = _; unfold DS.swE; rw [if_neg hin]
    have HR : Hid (S.swrite i n a v = S) := by show _ = _; unfold DS.swrite; rw [if_neg hin]
    go_enter Tryz.func192, Tryz.ntmps192
    go_wp2_with fail
    refine (inside_any (n : Int) a 1 W (by omega) (by omega)).mono ?_
    rintro e w' ⟨rfl, rfl⟩
    rw [HI.out]
    go_wp2_with fail
    go_ret
    exact ⟨by rw [HE.out]; rfl, F, by rw [HR.out]; exact HD.out, Turn.refl _ _⟩
set_option maxRecDepth 100000 in
set_option maxHeartbeats 1000000 in
theorem sflush_any (W : World) (F : Nat → Prop) (g sp i n : Nat) (S : DS) (h : DskAt W F g S) (hs : SpanAt W sp g i n) (hsp : ¬ F sp) (hlog : S.log.length ≤ 1000000) :
    Calls Tryz.prog 189 #[.pointer (some ⟨sp, 0, none⟩)] W (FlushP W F g S (i : Int)) := by
  obtain ⟨x0, x1, x2, x3⟩ := hs.cells
  have HD := Lib.hid h
  go_enter Tryz.func189, Tryz.ntmps189
  go_wp2_with fail
  go_region_held3 (fun w' => w'.cell? ⟨sp, 0, none⟩ = some (.pointer (some ⟨g, 0, none⟩)) ∧ w'.cell? ⟨sp, 1, none⟩ = some (.int .i64 (i : Int)))
    (first | exact y1 | exact ⟨x0, x1⟩)
    ((go_at_call 179; refine (aflush_any W.drew F g S (i : Int) HD.out.drew hlog).mono ?_; rintro e w1 ⟨rfl, F', hd1, ht1⟩; have y1 : w1.cell? ⟨sp, 0, none⟩ = some (.pointer (some ⟨g, 0, none⟩)) ∧ w1.cell? ⟨sp, 1, none⟩ = some (.int .i64 (i : Int)) := ⟨(ht1.1.cell (b := sp) (Cs.lt hs) hsp).trans x0, (ht1.1.cell (b := sp) (Cs.lt hs) hsp).trans x1⟩))
  go_wp2_with fail
  go_ret
  exact ⟨rfl, F', hd1, ht1.1.undrew, ht1.2⟩
theorem span_any (W : World) (F : Nat → Prop) (g i : Nat) (S : DS) (h : DskAt W F g S) (hi : i < S.dr.length) (h1 : 1 ≤ (S.drv i).1.length) :
    Calls Tryz.prog 68 #[.pointer (some ⟨g, 0, none⟩), .int .i64 (i : Int), .int .i64 0, .int .i64 ((S.drv i).1.length : Int)] W fun e w' =>
      ∃ sp, e = .returned (.tuple #[spanV sp, .int .i64 0]) ∧ SpanAt w' sp g i (S.drv i).1.length ∧ W.heap.size ≤ sp ∧ Below W.heap.size W w' := by
  have hS : S.size (i : Int) = (S.drv i).1.length := by unfold DS.size; rw [if_neg (by omega)]; rfl
  have hm : S.drv i ∈ S.dr := by unfold DS.drv; rw [List.getElem?_eq_getElem hi]; exact List.getElem_mem _
  have hle := (h.1.drv _ hm).2.2.2
  have HS := Lib.hid hS
  have HD := Lib.hid h
  generalize (S.drv i).1.length = n at *
  have HI : Hid (insB (n : Int) 0 (n : Int) = true) := by show _ = _; unfold insB; exact decide_eq_true (by omega)
  have t1 : ¬ (n : Int) < 1 := by omega
  clear hS hm h
  go_enter Tryz.func68, Tryz.ntmps68
  go_wp2_with fail
  refine (asize_any W F g S (i : Int) HD.out).mono ?_
  rintro e w1 ⟨rfl, q, rfl⟩
  rw [HS.out]
  go_wp2_with fail
  refine (inside_any (n : Int) 0 (n : Int) _ (by omega) (by omega)).mono ?_
  rintro e w' ⟨rfl, rfl⟩
  rw [HI.out]
  go_wp2_with fail
  go_ret2
  exact ⟨W.heap.size, rfl, Cs.new (W.drewN q) _ _, Nat.le_refl _, (below_drewN (Below.refl _ _) q).alloc (Nat.le_refl _) _⟩
end Go.Proofs.YtogchafnnkajfaaGreat
namespace Go.Proofs.YtogchafnnkajfaaGreat
set_option linter.unusedVariables false
open Go.RowKit
attribute [local go_sem] Oper.semAt_some
structure Im where
  A : Option Addr
  c : Nat
  l : List Nat
def Im.v (p : Im) : Value := .slice p.A p.l.length p.c
def full (l : List Nat) : List Nat × List Nat × Bool := (l, l, false)
def DS.full (ls : List (List Nat)) : DS := ⟨ls.map Proofs.YtogchafnnkajfaaGreat.full, [], 0, false, 0⟩
def DS.half (ls : List (List Nat)) (k : Nat) : DS := ⟨(ls.take k).map Proofs.YtogchafnnkajfaaGreat.full ++ (ls.drop k).map (fun l => zd l.length), [], 0, false, 0⟩
theorem half_zero (ls : List (List Nat)) : DS.half ls 0 = DS.fresh (ls.map List.length) := by simp [DS.half, DS.fresh, Function.comp_def]
theorem half_full (ls : List (List Nat)) : DS.half ls ls.length = DS.full ls := by simp [DS.half, DS.full]
theorem half_len (ls : List (List Nat)) (k : Nat) (hk : k ≤ ls.length) : (DS.half ls k).dr.length = ls.length := by simp [DS.half]; omega
theorem half_drv (ls : List (List Nat)) (k : Nat) (l : List Nat) (h : ls[k]? = some l) : (DS.half ls k).drv k = zd l.length := by
  obtain ⟨hk, e⟩ := List.getElem?_eq_some_iff.1 h
  show ((ls.take k).map _ ++ (ls.drop k).map _)[k]?.getD _ = _
  rw [List.getElem?_append_right (by simp; omega), List.length_map, List.length_take, Nat.min_eq_left (by omega), Nat.sub_self, List.getElem?_map, List.getElem?_drop, Nat.add_zero, h]
  rfl
theorem half_step (ls : List (List Nat)) (k : Nat) (l : List Nat) (h : ls[k]? = some l) : (DS.half ls k).load k l = DS.half ls (k + 1) := by
  obtain ⟨hk, e⟩ := List.getElem?_eq_some_iff.1 h
  have hd : ls.drop k = l :: ls.drop (k + 1) := by rw [List.drop_eq_getElem_cons hk, e]
  have hset : (DS.half ls k).dr.set k (Proofs.YtogchafnnkajfaaGreat.full l) = (DS.half ls (k + 1)).dr := by
    show ((ls.take k).map _ ++ (ls.drop k).map _).set k _ = (ls.take (k + 1)).map _ ++ (ls.drop (k + 1)).map _
    rw [List.set_append_right _ _ (by simp; omega), List.length_map, List.length_take, Nat.min_eq_left (by omega), Nat.sub_self, hd, take_snoc' ls k l h]
    simp
  unfold DS.load
  rw [half_drv ls k l h]
  show ({ DS.half ls k with dr := (DS.half ls k).dr.set k (l, l, false) } : DS) = _
  rw [show (l, l, false) = Proofs.YtogchafnnkajfaaGreat.full l from rfl, hset]
  rfl
def LoadedP (W : World) (ls : List (List Nat)) (e : Ending) (W' : World) : Prop :=
  ∃ g, e = .returned (.pointer (some ⟨g, 0, none⟩)) ∧ DskAt W' (fun j => W.heap.size ≤ j) g (DS.full ls) ∧ Below W.heap.size W W'
set_option maxRecDepth 100000 in
set_option maxHeartbeats 2000000 in
theorem loaded_any (W : World) (gb cb N : Nat) (ims : List Im) (hG : Cs W gb 29 (ims.map Im.v).toArray) (hN : ims.length = N) (h8 : N ≤ 8) (hR : ∀ p ∈ ims, Reads W p.A (uv p.l)) (hl : ∀ p ∈ ims, 1 ≤ p.l.length ∧ p.l.length ≤ 65536 ∧ W64 p.l) :
    Calls Tryz.prog 37 #[.slice (some ⟨gb, 0, none⟩) N cb] W (LoadedP W (ims.map Im.l)) := by
  have HN := Lib.hid hN
  have HG := Lib.hid hG
  have HR := Lib.hid hR
  have HLL := Lib.hid hl
  obtain ⟨i1, hi1, hy0, hy1, hy2⟩ := info_parts int_info
  clear hN hG hR hl
  go_enter Tryz.func37, Tryz.ntmps37
  go_wp2_with fail
  go_loopw [3, 4] (fun s3 s4 wr => ∃ (k : Nat) (v3 : Value), k ≤ N ∧ s3 = v3 ∧ s4 = .int .i64 k ∧ wr.ownsRow W.heap.size 3 1 v3 k (iv ((ims.take k).map fun p => Int.ofNat p.l.length)) ∧ Below W.heap.size W wr) (fun _ s4 _ => N - (intOf s4).toNat)
  case atStart => exact ⟨0, _, Nat.zero_le _, rfl, rfl, World.ownsRow_nil _ _ _ _, Below.refl _ _⟩
  case round =>
    obtain ⟨k, v3, hk, rfl, rfl, hown, hb⟩ := hrel
    by_cases hlt : k < N
    · obtain ⟨p, hp⟩ : ∃ p, ims[k]? = some p := ⟨_, List.getElem?_eq_getElem (by rw [HN.out]; exact hlt)⟩
      have hc := (HG.out.below hb HG.out.lt).cell k
      rw [List.getElem?_toArray, List.getElem?_map, hp] at hc
      change wr.cell? _ = some (.slice p.A p.l.length p.c) at hc
      have hpl := HLL.out p (List.mem_of_getElem? hp)
      have HO := Lib.hid hown
      have hbs := hb.size
      have HTK : Hid (iv ((ims.take (k + 1)).map fun p => Int.ofNat p.l.length) = iv ((ims.take k).map fun p => Int.ofNat p.l.length) ++ [.int .i64 (p.l.length : Int)]) := by
        show _ = _
        rw [take_snoc' ims k p hp, List.map_append, iv_append]
        rfl
      obtain ⟨A3, c3, hv3⟩ := own_form hown
      subst hv3
      have t1 : (k : Int) < (N : Int) := by omega
      generalize p.l.length = n at *
      clear hp hown
      go_wp2_with (at_builtin; refine wpList_append_reads _ (by rfl) _ _ _ (by rfl) W.heap.size 3 i1 _ 1 8 Tryz.underlying22 hi1 hy0 hy1 hy2 rfl (by omega) (.slice A3 k c3) k _ (by rfl) (HO.out.alloc _) (some ⟨wr.heap.size, 0, none⟩) 1 1 [.int .i64 (n : Int)] (by rfl) (by rfl) (Reads.new _ _ _) (by simp [Value.oneCell']) (by simp only [maxLen]; omega) (by omega) (by simp; omega) ?_; intro v5 w5 hown5 hg5 hat5)
      have HB5 := Lib.hid (hb.trans (app_below HO.out hg5 hbs))
      rw [← HTK.out] at hown5
      have HO5 := Lib.hid hown5
      clear hown5 hg5 hat5
      go_roundw
      case rel => exact ⟨k + 1, v5, by omega, rfl, by go_num, HO5.out, HB5.out⟩
      case measure => simp [intOf]; omega
    · have hkn : k = N := by omega
      subst hkn
      have htk : ims.take k = ims := by rw [← HN.out]; exact List.take_length
      rw [htk] at hown
      obtain ⟨A3, c3, hv3⟩ := own_form hown
      subst hv3
      have hsz : (ims.map fun p => Int.ofNat p.l.length) = ((ims.map Im.l).map List.length).map (Int.ofNat ·) := by simp [Function.comp_def]
      rw [hsz] at hown
      have HO := Lib.hid hown
      have HNs : Hid (((ims.map Im.l).map List.length).length = k) := by show _ = _; rw [List.length_map, List.length_map]; exact HN.out
      have HLn : ∀ n ∈ (ims.map Im.l).map List.length, 1 ≤ n ∧ n ≤ 65536 := by
        intro n hn
        obtain ⟨q, hq, rfl⟩ := List.mem_map.1 hn
        obtain ⟨p, hp, rfl⟩ := List.mem_map.1 hq
        exact ⟨(HLL.out p hp).1, (HLL.out p hp).2.1⟩
      have HLn := Lib.hid HLn
      clear hown htk hsz
      go_wp2_with fail
      refine (dnew_any wr A3 k c3 ((ims.map Im.l).map List.length) (Reads.of_own HO.out) HNs.out h8 HLn.out).mono ?_
      rintro e V ⟨g, rfl, hd, hbv⟩
      have HD := Lib.hid hd
      clear hd
      go_wp2_with fail
      have hbs0 := hb.size
      have HB0 := Lib.hid (hb.trans (hbv.mono hb.size))
      have hD0 := HD.out
      rw [← half_zero (ims.map Im.l)] at hD0
      have HD0 := Lib.hid hD0
      clear hD0 HD hb hbv HO
      obtain ⟨wo, hwo⟩ : ∃ wo, wo = wr := ⟨_, rfl⟩
      rw [← hwo] at HD0 hbs0
      clear hwo
      go_loopw [7] (fun s7 wq => ∃ j : Nat, j ≤ k ∧ s7 = .int .i64 j ∧ DskAt wq (fun b => wo.heap.size ≤ b) g (DS.half (ims.map Im.l) j) ∧ Below W.heap.size W wq) (fun s7 _ => k - (intOf s7).toNat)
      case atStart => exact ⟨0, Nat.zero_le _, rfl, HD0.out, HB0.out⟩
      case round =>
        obtain ⟨j, hj, rfl, hd, hbq⟩ := hrel
        have HQ := Lib.hid hd
        have HBQ := Lib.hid hbq
        by_cases hjl : j < k
        · obtain ⟨p, hp⟩ : ∃ p, ims[j]? = some p := ⟨_, List.getElem?_eq_getElem (by rw [HN.out]; exact hjl)⟩
          have hpm := List.mem_of_getElem? hp
          have hc := (HG.out.below hbq HG.out.lt).cell j
          rw [List.getElem?_toArray, List.getElem?_map, hp] at hc
          change wr.cell? _ = some (.slice p.A p.l.length p.c) at hc
          have hlj : (ims.map Im.l)[j]? = some p.l := by rw [List.getElem?_map, hp]; rfl
          have HLJ := Lib.hid hlj
          have HPM := Lib.hid hpm
          have t1 : (j : Int) < (k : Int) := by omega
          have hAF : ∀ b off, p.A = some ⟨b, off, none⟩ → ¬ (wo.heap.size ≤ b) := by
            intro b off e
            obtain ⟨b', off', e', hlt', _⟩ := (HR.out p hpm).u (by have := (HLL.out p hpm).1; omega)
            rw [e] at e'
            simp only [Option.some.injEq, Addr.mk.injEq] at e'
            omega
          have HAF := Lib.hid hAF
          clear hp hpm hd hbq hlj hAF
          go_wp2_with fail
          refine (aload_any wr (fun b => wo.heap.size ≤ b) g j (DS.half (ims.map Im.l) j) p.A p.c p.l.length p.l HQ.out (by rw [half_len _ _ (by rw [List.length_map, HN.out]; omega), List.length_map, HN.out]; exact hjl) rfl ((HR.out p HPM.out).keep HBQ.out) rfl (HLL.out p HPM.out).1 (by rw [half_drv _ _ _ HLJ.out]; simp [zd]) (HLL.out p HPM.out).2.2 HAF.out).mono ?_
          rintro e V ⟨rfl, hd, hf⟩
          rw [half_step _ _ _ HLJ.out] at hd
          have HD := Lib.hid hd
          have HBV := Lib.hid (HBQ.out.trans (hf.below HBQ.out.size (fun b hb => Nat.le_trans hbs0 hb)))
          clear hd hf hc
          go_wp2_with fail
          go_roundw
          case rel => exact ⟨j + 1, by omega, by go_num, HD.out, HBV.out⟩
          case measure => simp [intOf]; omega
        · have hjk : j = k := by omega
          subst hjk
          have hln : (ims.map Im.l).length = j := by rw [List.length_map]; exact HN.out
          have hq := HQ.out
          rw [← hln, half_full] at hq
          have HQQ := Lib.hid hq
          clear hq hd hln hbq
          go_wp2_with fail
          go_ret
          exact ⟨g, rfl, ⟨HQQ.out.1, by obtain ⟨dv, lv, mb, zs, h1, h2⟩ := HQQ.out.2; exact ⟨dv, lv, mb, zs, h1, h2.mono (fun b hb => Nat.le_trans hbs0 hb)⟩⟩, HBQ.out⟩
end Go.Proofs.YtogchafnnkajfaaGreat
namespace Go.Proofs.YtogchafnnkajfaaGreat
set_option linter.unusedVariables false
open Go.RowKit
attribute [local go_sem] Oper.semAt_some
theorem dev_info : (Tryz.prog.info? 55).map (fun i => (i.zero, i.size, i.bytes)) = some (some .nilIface, 1, 16) := by kernel_rfl
def SpansAt (W0 W : World) (g : Nat) (S : DS) (sps : List Nat) : Prop := ∀ i sp, sps[i]? = some sp → SpanAt W sp g i (S.drv i).1.length ∧ W0.heap.size ≤ sp
theorem SpansAt.keep {W0 W W' : World} {g : Nat} {S : DS} {sps : List Nat} (h : SpansAt W0 W g S sps) (hb : Below W.heap.size W W') : SpansAt W0 W' g S sps :=
  fun i sp hs => ⟨Cs.below (h i sp hs).1 hb (Cs.lt (h i sp hs).1), (h i sp hs).2⟩
theorem SpansAt.grown {W0 W W' : World} {g : Nat} {S : DS} {sps : List Nat} {base n : Nat} {v : Value} {xs : List Value} (h : SpansAt W0 W g S sps) (hr : W.ownsRow base 55 1 v n xs) (hg : W.grownBy W' v.ownBlock) : SpansAt W0 W' g S sps :=
  fun i sp hs => ⟨Cs.grown (h i sp hs).1 hg (fun e => cs_own_ne (h i sp hs).1 hr (by decide) sp e.symm rfl), (h i sp hs).2⟩
def spv (sps : List Nat) : List Value := sps.map spanV
def SpansP (W : World) (g : Nat) (S : DS) (e : Ending) (W' : World) : Prop :=
  ∃ v sps, e = .returned v ∧ sps.length = S.dr.length ∧ W'.ownsRow W.heap.size 55 1 v S.dr.length (spv sps) ∧ SpansAt W W' g S sps ∧ Below W.heap.size W W'
set_option maxRecDepth 100000 in
set_option maxHeartbeats 2000000 in
theorem spans_any (W : World) (F : Nat → Prop) (g : Nat) (S : DS) (h : DskAt W F g S) (hz : ∀ x ∈ S.dr, 1 ≤ x.1.length) :
    Calls Tryz.prog 38 #[.pointer (some ⟨g, 0, none⟩)] W (SpansP W g S) := by
  have HD := Lib.hid h
  have hn8 := h.1.nd
  obtain ⟨N, hN⟩ : ∃ N, S.dr.length = N := ⟨_, rfl⟩
  have HN := Lib.hid hN
  rw [hN] at hn8
  have HZ := Lib.hid hz
  obtain ⟨i1, hi1, hy0, hy1, hy2⟩ := info_parts dev_info
  clear hN h hz
  go_enter Tryz.func38, Tryz.ntmps38
  go_wp2_with fail
  go_loopw [3, 4] (fun s3 s4 wr => ∃ (k : Nat) (v3 : Value) (sps : List Nat), k ≤ N ∧ s3 = v3 ∧ s4 = .int .i64 k ∧ sps.length = k ∧ wr.ownsRow W.heap.size 55 1 v3 k (spv sps) ∧ SpansAt W wr g S sps ∧ Below W.heap.size W wr) (fun _ s4 _ => N - (intOf s4).toNat)
  case atStart => exact ⟨0, _, [], Nat.zero_le _, rfl, rfl, rfl, World.ownsRow_nil _ _ _ _, (fun i sp hs => by simp at hs), Below.refl _ _⟩
  case round =>
    obtain ⟨k, v3, sps, hk, rfl, rfl, hsl, hown, hsp, hb⟩ := hrel
    have HSL := Lib.hid hsl
    have HO := Lib.hid hown
    have HSP := Lib.hid hsp
    have HB := Lib.hid hb
    obtain ⟨A3, c3, hv3⟩ := own_form hown
    subst hv3
    have hDk := Lib.hid (HD.out.keep hb)
    clear hsl hown hsp hb
    by_cases hlt : k < N
    · have t1 : (k : Int) < (N : Int) := by omega
      have hkS : k < S.dr.length := by rw [HN.out]; exact hlt
      have hszk : S.size (k : Int) = (S.drv k).1.length := by unfold DS.size; rw [if_neg (by omega)]; rfl
      have hm : S.drv k ∈ S.dr := by unfold DS.drv; rw [List.getElem?_eq_getElem hkS]; exact List.getElem_mem _
      have HSZ := Lib.hid hszk
      have HM := Lib.hid hm
      have HKS := Lib.hid hkS
      clear hszk hm hkS
      go_wp2_with fail
      refine (acount_any wr _ g S hDk.out).mono ?_
      rintro e w' ⟨rfl, rfl⟩
      rw [HN.out]
      go_wp2_with fail
      refine (asize_any wr _ g S (k : Int) hDk.out).mono ?_
      rintro e w1 ⟨rfl, q, rfl⟩
      rw [HSZ.out]
      go_wp2_with fail
      refine (span_any (wr.drewN q) _ g k S (hDk.out.drewN q) HKS.out (HZ.out _ HM.out)).mono ?_
      rintro e w2 ⟨sp, rfl, hspn, hsge, hb2⟩
      have hbq : Below wr.heap.size wr w2 := (below_drewN (Below.refl wr.heap.size wr) q).trans hb2
      have HO2 := Lib.hid (own_keepB HO.out hbq)
      have HSP2 := Lib.hid (HSP.out.keep hbq)
      have HB2 := Lib.hid (HB.out.trans (hbq.mono HB.out.size))
      have hge : W.heap.size ≤ sp := Nat.le_trans HB.out.size hsge
      have HSN := Lib.hid hspn
      have hbs2 := HB2.out.size
      clear hspn hb2 hbq hsge
      unfold spanV
      go_wp2_with (at_builtin; refine wpList_append_reads _ (by rfl) _ _ _ (by rfl) W.heap.size 55 i1 _ 1 16 Tryz.underlying38 hi1 hy0 hy1 hy2 rfl (by omega) (.slice A3 k c3) k (spv sps) (by rfl) (HO2.out.alloc _) (some ⟨w2.heap.size, 0, none⟩) 1 1 [spanV sp] (by rfl) (by rfl) (Reads.new _ _ _) (by simp [spanV, Value.oneCell']) (by simp only [maxLen]; omega) (by omega) (by simp; omega) ?_; intro v5 w5 hown5 hg5 hat5)
      have HB5 := Lib.hid (HB2.out.trans (app_below HO2.out hg5 hbs2))
      have hsp5 : SpansAt W w5 g S (sps ++ [sp]) := by
        have ha : Below w2.heap.size w2 (w2.alloc (.cells #[Value.iface 176 (.pointer (some ⟨sp, 0, none⟩))] 55)) := (Below.refl _ _).alloc (Nat.le_refl _) _
        have h1 := (HSP2.out.keep ha).grown (HO2.out.alloc _) hg5
        intro i q hq
        by_cases hi : i < sps.length
        · rw [List.getElem?_append_left hi] at hq
          exact h1 i q hq
        · rw [List.getElem?_append_right (by omega)] at hq
          have hi0 : i - sps.length = 0 := by
            rcases Nat.eq_zero_or_pos (i - sps.length) with e | e
            · exact e
            · rw [List.getElem?_eq_none (by simp; omega)] at hq; cases hq
          rw [hi0] at hq
          simp at hq
          subst hq
          have hik : i = k := by have := HSL.out; omega
          subst hik
          have hc := Cs.below HSN.out ha (Cs.lt HSN.out)
          exact ⟨Cs.grown hc hg5 (fun e => cs_own_ne hc (HO2.out.alloc _) (by decide) sp e.symm rfl), hge⟩
      have HSP5 := Lib.hid hsp5
      have HO5 : Hid (w5.ownsRow W.heap.size 55 1 v5 (k + 1) (spv (sps ++ [sp]))) := by
        show w5.ownsRow _ _ _ _ _ _
        have := hown5
        unfold spv at this ⊢
        rw [List.map_append]
        exact this
      clear hown5 hg5 hat5 hsp5
      go_roundw
      case rel => exact ⟨k + 1, v5, sps ++ [sp], by omega, rfl, by go_num, by rw [List.length_append, HSL.out]; rfl, HO5.out, HSP5.out, HB5.out⟩
      case measure => simp [intOf]; omega
    · have hkn : k = N := by omega
      subst hkn
      go_wp2_with fail
      refine (acount_any wr _ g S hDk.out).mono ?_
      rintro e w' ⟨rfl, rfl⟩
      rw [HN.out]
      go_wp2_with fail
      go_ret
      exact ⟨_, sps, rfl, by rw [HSL.out, HN.out], by rw [HN.out]; exact HO.out, HSP.out, HB.out⟩
end Go.Proofs.YtogchafnnkajfaaGreat
namespace Go.Proofs.YtogchafnnkajfaaGreat
set_option linter.unusedVariables false
open Go.RowKit
attribute [local go_sem] Oper.semAt_some
theorem DskAt.tight {W : World} {F : Nat → Prop} {g : Nat} {S : DS} (h : DskAt W F g S) : DskAt W (fun j => F j ∧ j < W.heap.size) g S := by
  obtain ⟨ho, dv, lv, mb, zs, hl, hi⟩ := h
  exact ⟨ho, dv, lv, mb, zs, hl, hi.lt hl⟩
end Go.Proofs.YtogchafnnkajfaaGreat
namespace Go.Proofs.YtogchafnnkajfaaGreat
set_option linter.unusedVariables false
open Go.RowKit
def wHead : List Int := [11, 7, 2, 1, 16, 16]
def wSlot : List Int := [24, 1, 1, 22, 16]
set_option maxHeartbeats 400000 in
theorem widths0_any (w : World) :
    Calls Tryz.prog 103 #[.int .i64 0] w fun e w' => e = .returned (.tuple #[.slice (some ⟨w.heap.size, 0, none⟩) 6 6, .int .i64 4]) ∧ Reads w' (some ⟨w.heap.size, 0, none⟩) (iv wHead) ∧ Below w.heap.size w w' := by
  go_enter Tryz.func103, Tryz.ntmps103
  go_wp2_with fail
  go_ret2
  exact ⟨rfl, (Reads.new w #[.int .i64 11, .int .i64 7, .int .i64 2, .int .i64 1, .int .i64 16, .int .i64 16] _).keep (((Below.refl _ _).alloc (Nat.le_refl _) _).alloc (by simp) _), (((Below.refl _ w).alloc (Nat.le_refl _) _).alloc (by simp) _).alloc (by simp; omega) _⟩
set_option maxHeartbeats 400000 in
theorem widths1_any (w : World) :
    Calls Tryz.prog 103 #[.int .i64 1] w fun e w' => e = .returned (.tuple #[.slice (some ⟨w.heap.size + 1, 0, none⟩) 5 5, .int .i64 4]) ∧ Reads w' (some ⟨w.heap.size + 1, 0, none⟩) (iv wSlot) ∧ Below w.heap.size w w' := by
  go_enter Tryz.func103, Tryz.ntmps103
  go_wp2_with fail
  go_ret2
  refine ⟨rfl, ?_, (((Below.refl _ w).alloc (Nat.le_refl _) _).alloc (by simp) _).alloc (by simp; omega) _⟩
  have := Reads.new (w.alloc (.cells #[.int .i64 11, .int .i64 7, .int .i64 2, .int .i64 1, .int .i64 16, .int .i64 16] 3)) #[.int .i64 24, .int .i64 1, .int .i64 1, .int .i64 22, .int .i64 16] 3
  rw [World.size_alloc] at this
  exact this.keep ((Below.refl _ _).alloc (Nat.le_refl _) _)
def wOf (kind : Nat) : List Int := if kind = 0 then wHead else wSlot
theorem wOf_len (kind : Nat) : (wOf kind).length = if kind = 0 then 6 else 5 := by unfold wOf; split <;> rfl
theorem widths_any (kind : Nat) (hk : kind ≤ 1) (w : World) :
    Calls Tryz.prog 103 #[.int .i64 (kind : Int)] w fun e w' => ∃ g, e = .returned (.tuple #[.slice (some ⟨g, 0, none⟩) (wOf kind).length (wOf kind).length, .int .i64 4]) ∧ Reads w' (some ⟨g, 0, none⟩) (iv (wOf kind)) ∧ Below w.heap.size w w' := by
  rcases (show kind = 0 ∨ kind = 1 by omega) with rfl | rfl
  · refine (widths0_any w).mono ?_
    rintro e w' ⟨rfl, h⟩
    exact ⟨_, rfl, h⟩
  · refine (widths1_any w).mono ?_
    rintro e w' ⟨rfl, h⟩
    exact ⟨_, rfl, h⟩
def mkG (ws : List Int) (vs : List Nat) : Nat → List Nat
  | 0 => vs
  | k + 1 => (mkG ws vs k).set k ((vs[k]?.getD 0) &&& (2 ^ (ws[k]?.getD 0).toNat - 1))
theorem mkG_length (ws : List Int) (vs : List Nat) (k : Nat) : (mkG ws vs k).length = vs.length := by
  induction k with
  | zero => rfl
  | succ k ih => simp [mkG, ih]
theorem mkG_at (ws : List Int) (vs : List Nat) (k j : Nat) (h : k ≤ j) : (mkG ws vs k)[j]?.getD 0 = vs[j]?.getD 0 := by
  induction k with
  | zero => rfl
  | succ k ih => rw [mkG, List.getElem?_set_ne (by omega)]; exact ih (by omega)
theorem mkG_w (ws : List Int) (vs : List Nat) (h : W64 vs) (k : Nat) : W64 (mkG ws vs k) := by
  induction k with
  | zero => exact h
  | succ k ih => exact ih.set k _ (and_lt _ (h.at k))
theorem wOf_at (kind k : Nat) (h : k < (wOf kind).length) : 1 ≤ (wOf kind)[k]?.getD 0 ∧ (wOf kind)[k]?.getD 0 ≤ 24 := by
  unfold wOf at *
  split
  · rename_i hk
    rw [if_pos hk] at h
    change k < 6 at h
    match k, h with
    | 0, _ | 1, _ | 2, _ | 3, _ | 4, _ | 5, _ => decide
  · rename_i hk
    rw [if_neg hk] at h
    change k < 5 at h
    match k, h with
    | 0, _ | 1, _ | 2, _ | 3, _ | 4, _ => decide
theorem mk_bits (x n : Nat) (hx : x < 18446744073709551616) (hn : n < 64) : bits BinOp.and IntKind.u64 (x : Int) (IntKind.u64.wrap (IntKind.u64.wrap (2 ^ n) - 1)) = ((x &&& (2 ^ n - 1) : Nat) : Int) := by
  have := two_pow_lt n hn
  rw [ones_wrap n hn, u64_and_nat _ _ hx (by omega)]
theorem reads_cell (w : World) (g : Nat) (ws : List Int) (hr : Reads w (some ⟨g, 0, none⟩) (iv ws)) (k : Nat) (hk : k < ws.length) : w.cell? ⟨g, k, none⟩ = some (.int .i64 (ws[k]?.getD 0)) := by
  obtain ⟨b, off, e, _, hc⟩ := hr.i (by omega)
  simp only [Option.some.injEq, Addr.mk.injEq] at e
  obtain ⟨rfl, rfl, _⟩ := e
  have := hc k hk
  rwa [Nat.zero_add] at this
def sumW (x : Nat) : Nat := shortC (extendC 0 [x])
theorem sumW_lt (x : Nat) : sumW x < 65536 := shortC_lt _
def cutG (kind : Nat) (vs : List Nat) : List Nat := (mkG (wOf kind) vs (wOf kind).length).set 4 0
def sealG (kind : Nat) (vs : List Nat) : Nat := wordR (wOf kind) ((cutG kind vs).set 4 (sumW (wordR (wOf kind) (cutG kind vs))))
theorem cutG_w (kind : Nat) (vs : List Nat) (h : W64 vs) : W64 (cutG kind vs) := (mkG_w _ _ h _).set _ _ (by omega)
theorem cutG_length (kind : Nat) (vs : List Nat) : (cutG kind vs).length = vs.length := by rw [cutG, List.length_set, mkG_length]
set_option maxRecDepth 100000 in
set_option maxHeartbeats 1000000 in
theorem sealed_any (kind : Nat) (hk : kind ≤ 1) (A : Option Addr) (c n : Nat) (vs : List Nat) (w : World) (hA : Reads w A (uv vs)) (hn : vs.length = n) (hn2 : n = (wOf kind).length) (hw : W64 vs) :
    Calls Tryz.prog 107 #[.int .i64 (kind : Int), .slice A n c] w fun e w' => e = .returned (.int .u64 (sealG kind vs : Int)) ∧ Below w.heap.size w w' := by
  have hn56 : 5 ≤ n ∧ n ≤ 6 := by rw [hn2, wOf_len]; split <;> omega
  have HN := Lib.hid hn
  have HN2 := Lib.hid hn2
  have HA := Lib.hid hA
  have HW := Lib.hid hw
  have HAT := Lib.hid (wOf_at kind)
  have hwid := widths_any kind hk w
  rw [← hn2] at hwid
  have HWI := Lib.hid hwid
  have hwl : (wOf kind).length = n := hn2.symm
  have HWL := Lib.hid hwl
  have HSG : Hid (sealG kind vs = wordR (wOf kind) ((cutG kind vs).set 4 (sumW (wordR (wOf kind) (cutG kind vs))))) := rfl
  have HCG : Hid (cutG kind vs = (mkG (wOf kind) vs n).set 4 0) := by show _ = _; rw [cutG, hwl]
  have hcw := cutG_w kind vs hw
  have HCL : Hid ((cutG kind vs).length = n) := by show _ = _; rw [cutG_length, hn]
  generalize wOf kind = ws at *
  clear hn hn2 hA hw hwid hwl
  go_enter Tryz.func107, Tryz.ntmps107
  go_wp2_with fail
  refine HWI.out.mono ?_
  rintro e w1 ⟨gw, rfl, hr, hb⟩
  have HR := Lib.hid hr
  clear hr HWI
  go_wp2_with fail
  have hAk := HA.out.keep hb
  have hcl := clone_any A c vs w1 hAk (by rw [HN.out]; omega)
  rw [HN.out] at hcl
  refine hcl.mono ?_
  rintro e w2 ⟨v, rfl, hown, hb2⟩
  obtain ⟨gl, cl, rfl, hgl, hgl2⟩ := hown.form (by omega)
  have HO := Lib.hid hown
  have hw12 : w.heap.size ≤ w1.heap.size := hb.size
  clear hown hcl hAk
  go_wp2_with fail
  go_loopw [21] (fun i wr => ∃ j : Nat, j ≤ n ∧ i = .int .i64 j ∧ wr.ownsRow w1.heap.size 26 1 (.slice (some ⟨gl, 0, none⟩) n cl) n (uv (mkG ws vs j)) ∧ Below w1.heap.size w1 wr) (fun i _ => n - (intOf i).toNat)
  case atStart => exact ⟨0, by omega, rfl, HO.out, hb2⟩
  case round =>
    obtain ⟨j, hj, rfl, hown, hbr⟩ := hrel
    by_cases hlt : j < n
    · have hh := HAT.out j (by rw [HWL.out]; exact hlt)
      have hc1 := reads_cell _ _ _ (HR.out.keep hbr) j (by rw [HWL.out]; exact hlt)
      have hc2 := hown.cellAt j (by omega)
      have hf := hown.frozenAt j
      rw [uv_at _ _ (by rw [mkG_length, HN.out]; exact hlt), mkG_at _ _ _ _ (Nat.le_refl _)] at hc2
      have hx := HW.out.at j
      have hst := (hown.stored j (.int .u64 (((vs[j]?.getD 0) &&& (2 ^ (ws[j]?.getD 0).toNat - 1) : Nat) : Int))).1
      rw [uv_set] at hst
      have HST : Hid ((wr.setCell ⟨gl, j, none⟩ (.int .u64 (((vs[j]?.getD 0) &&& (2 ^ (ws[j]?.getD 0).toNat - 1) : Nat) : Int))).ownsRow w1.heap.size 26 1 (.slice (some ⟨gl, 0, none⟩) n cl) n (uv (mkG ws vs (j + 1)))) := hst
      have hbs := hbr.setCell (p := ⟨gl, j, none⟩) hgl (.int .u64 (((vs[j]?.getD 0) &&& (2 ^ (ws[j]?.getD 0).toNat - 1) : Nat) : Int))
      have hmb := mk_bits (vs[j]?.getD 0) (ws[j]?.getD 0).toNat hx (by omega)
      generalize (vs[j]?.getD 0) = x at *
      generalize (ws[j]?.getD 0) = m at *
      clear hst hown
      generalize (x &&& (2 ^ m.toNat - 1)) = y at HST hbs hmb
      go_wp2_with fail
      go_still_tail 9, (by kernel_rfl)
      go_wp2_with fail
      go_roundw
      case rel => exact ⟨j + 1, by omega, by go_num, World.ownsRow.drew HST.out, hbs.drew⟩
      case measure => simp [intOf]; omega
    · have hjn : j = n := by omega
      subst hjn
      have f4 := hown.frozenAt 4
      have hc4 := hown.cellAt 4 (by omega)
      rw [uv_at _ _ (by rw [mkG_length, HN.out]; omega)] at hc4
      have hst := (hown.stored 4 (.int .u64 (0 : Int))).1
      rw [show (Value.int IntKind.u64 0) = .int .u64 ((0 : Nat) : Int) from rfl, uv_set, ← HCG.out] at hst
      have HST := Lib.hid hst
      have hbs := hbr.setCell (p := ⟨gl, 4, none⟩) hgl (.int .u64 (0 : Int))
      generalize (mkG ws vs j)[4]?.getD 0 = x4 at hc4
      clear hst hown
      go_upto_region 9 with (fail)
      generalize (wr.setCell _ _) = V at HST hbs ⊢
      clear hc4 f4 hbr
      go_wp2_with fail
      refine (fields_all (some ⟨gw, 0, none⟩) (some ⟨gl, 0, none⟩) j cl j j ws (cutG kind vs) V HWL.out HCL.out (HR.out.keep hbs) (Reads.of_own HST.out) (by omega) hcw).mono ?_
      rintro e V1 ⟨rfl, hb3⟩
      have HO3 := Lib.hid (own_keepB HST.out hb3)
      have hbs3 := hbs.trans (hb3.mono hbs.size)
      have hxlt : wordR ws (cutG kind vs) < 18446744073709551616 := by unfold wordR; split; exact wordF_lt _ _; omega
      generalize hx0 : wordR ws (cutG kind vs) = x0 at *
      have HX0 := Lib.hid hx0
      generalize wordE ws (cutG kind vs) = e0
      clear hb3 HST hx0
      go_wp2_with fail
      have hR4 : Reads (V1.alloc (.cells #[.int .u64 (x0 : Int)] 26)) (some ⟨V1.heap.size, 0, none⟩) (uv [x0]) := Reads.new V1 _ _
      have hO4 := HO3.out.alloc (.cells #[.int .u64 (x0 : Int)] 26)
      have hb4 := hbs3.alloc hbs3.size (.cells #[.int .u64 (x0 : Int)] 26)
      have HO4 := Lib.hid hO4
      generalize hq : V1.heap.size = b1 at *
      generalize (V1.alloc _) = V2 at HO4 hR4 hb4 ⊢
      clear hq hO4
      refine (words_sum (some ⟨b1, 0, none⟩) 1 1 [x0] V2 rfl hR4 (by intro y hy; simp at hy; omega) (by omega)).mono ?_
      rintro e V3 ⟨rfl, hb5⟩
      have HO5 := Lib.hid (own_keepB HO4.out hb5)
      have hbs5 := hb4.trans (hb5.mono hb4.size)
      have hext := extendC_lt 0 [x0]
      have HSW : Hid (sumW x0 = shortC (extendC 0 [x0])) := rfl
      generalize extendC 0 [x0] = ex at *
      clear hb5 HO4 hR4 hb4
      go_wp2_with fail
      refine (short_any ex V3 hext).mono ?_
      rintro e V4 ⟨rfl, rfl⟩
      rw [← HSW.out]
      have hsl := sumW_lt x0
      have f4 := HO5.out.frozenAt 4
      have hc4 := HO5.out.cellAt 4 (by omega)
      rw [uv_at _ _ (by rw [HCL.out]; omega)] at hc4
      have hst := (HO5.out.stored 4 (.int .u64 (sumW x0 : Int))).1
      rw [uv_set] at hst
      have HST := Lib.hid hst
      have hbs6 := hbs5.setCell (p := ⟨gl, 4, none⟩) hgl (.int .u64 (sumW x0 : Int))
      have hcw2 := hcw.set 4 (sumW x0) (by omega)
      have HCL2 : Hid (((cutG kind vs).set 4 (sumW x0)).length = j) := by show _ = _; rw [List.length_set, HCL.out]
      generalize (cutG kind vs)[4]?.getD 0 = c4 at hc4
      generalize sumW x0 = sw at *
      clear hst
      go_wp2_with fail
      generalize (V3.setCell _ _) = V5 at HST hbs6 ⊢
      clear hc4 f4
      refine (fields_all (some ⟨gw, 0, none⟩) (some ⟨gl, 0, none⟩) j cl j j ws ((cutG kind vs).set 4 sw) V5 HWL.out HCL2.out (HR.out.keep hbs6) (Reads.of_own HST.out) (by omega) hcw2).mono ?_
      rintro e V6 ⟨rfl, hb7⟩
      have hfin := hb.trans ((hbs6.trans (hb7.mono hbs6.size)).mono hw12)
      go_wp2_with fail
      go_ret
      exact ⟨by rw [HSG.out]; rfl, hfin⟩
end Go.Proofs.YtogchafnnkajfaaGreat
namespace Go.Proofs.YtogchafnnkajfaaGreat
set_option linter.unusedVariables false
open Go.RowKit
theorem low_bits (x : Int) (n : Nat) (hn : n ≤ 64) : bits BinOp.and IntKind.u64 (IntKind.u64.wrap x) ((2 ^ n - 1 : Nat) : Int) = ((x % ((2 ^ n : Nat) : Int)).toNat : Int) := by
  obtain ⟨y, e, hy⟩ := any_u64 x
  have h2 : 2 ^ n ≤ 18446744073709551616 := by
    have := Nat.pow_le_pow_right (n := 2) (by omega) hn
    simpa using this
  have h0 : 0 < 2 ^ n := Nat.pow_pos (by omega)
  rw [e, u64_and_nat _ _ hy (by omega), Nat.and_two_pow_sub_one_eq_mod]
  congr 1
  have h : IntKind.u64.wrap x = x % 18446744073709551616 := by simp [IntKind.wrap, IntKind.signed, IntKind.bits]
  rw [h] at e
  obtain ⟨q, hq⟩ : 2 ^ n ∣ 18446744073709551616 := by
    have := Nat.pow_dvd_pow 2 hn
    simpa using this
  have hm : (x % ((2 ^ n : Nat) : Int)) = ((y % 2 ^ n : Nat) : Int) := by
    rw [Int.natCast_emod, ← e]
    have : (18446744073709551616 : Int) = ((2 ^ n : Nat) : Int) * (q : Int) := by rw [← Int.natCast_mul, ← hq]; rfl
    exact (Int.emod_emod_of_dvd x ⟨(q : Int), this⟩).symm
  rw [hm]; rfl
theorem or_fits (a b n : Nat) (h : a < 2 ^ n) : a ||| (b * 2 ^ n) = a + b * 2 ^ n := by
  rw [Nat.or_comm, ← Nat.shiftLeft_eq, ← Nat.shiftLeft_add_eq_or_of_lt h, Nat.add_comm]
theorem mod_nat (x : Int) (n : Nat) (h : 0 < n) : (x % (n : Int)).toNat < n := by
  have := Int.emod_lt_of_pos x (b := (n : Int)) (by omega)
  omega
def hdB (a b c d : Nat) : Nat := a + b * 2048 + c * 262144 + d * 1048576 + 17219 * 137438953472
def hdW (a b c d : Nat) : Nat := hdB a b c d + sumW (hdB a b c d) * 2097152
def slB (a d : Nat) : Nat := a + 16777216 + d * 33554432
def slW (a d : Nat) : Nat := slB a d + sumW (slB a d) * 281474976710656
set_option maxRecDepth 100000 in
theorem word_hd (K L C B S : Nat) (hK : K < 2048) (hL : L < 128) (hC : C < 4) (hB : B < 2) (hS : S < 65536) :
    wordR wHead [K, L, C, B, S, 17219] = K + L * 2048 + C * 262144 + B * 1048576 + S * 2097152 + 17219 * 137438953472 := by
  have hf : upto (fldOf wHead) 6 = [⟨0, 2047, by omega, by omega⟩, ⟨11, 127, by omega, by omega⟩, ⟨18, 3, by omega, by omega⟩, ⟨20, 1, by omega, by omega⟩, ⟨21, 65535, by omega, by omega⟩, ⟨37, 65535, by omega, by omega⟩] := by rfl
  have hl : wHead.length = 6 := rfl
  have hfit : fitsB (upto (fldOf wHead) 6) [K, L, C, B, S, 17219] = true := by
    rw [hf]
    simp [fitsB]
    omega
  unfold wordR
  rw [hl, if_pos ⟨rfl, by decide, hfit⟩, hf]
  simp only [wordF, List.getElem?_cons_zero, Option.getD_some, List.tail_cons, Nat.shiftLeft_eq, Nat.or_zero]
  rw [Nat.mod_eq_of_lt (by omega), Nat.mod_eq_of_lt (by omega), Nat.mod_eq_of_lt (by omega), Nat.mod_eq_of_lt (by omega), Nat.mod_eq_of_lt (by omega), Nat.mod_eq_of_lt (by omega)]
  rw [← Nat.or_assoc, ← Nat.or_assoc, ← Nat.or_assoc, ← Nat.or_assoc]
  rw [show K * 2 ^ 0 = K by omega, or_fits K L 11 (by omega), or_fits (K + L * 2 ^ 11) C 18 (by omega), or_fits (K + L * 2 ^ 11 + C * 2 ^ 18) B 20 (by omega), or_fits (K + L * 2 ^ 11 + C * 2 ^ 18 + B * 2 ^ 20) S 21 (by omega), or_fits (K + L * 2 ^ 11 + C * 2 ^ 18 + B * 2 ^ 20 + S * 2 ^ 21) 17219 37 (by omega)]
set_option maxRecDepth 100000 in
theorem word_sl (K B S : Nat) (hK : K < 16777216) (hB : B < 2) (hS : S < 65536) :
    wordR wSlot [K, 1, B, 0, S] = K + 16777216 + B * 33554432 + S * 281474976710656 := by
  have hf : upto (fldOf wSlot) 5 = [⟨0, 16777215, by omega, by omega⟩, ⟨24, 1, by omega, by omega⟩, ⟨25, 1, by omega, by omega⟩, ⟨26, 4194303, by omega, by omega⟩, ⟨48, 65535, by omega, by omega⟩] := by rfl
  have hl : wSlot.length = 5 := rfl
  have hfit : fitsB (upto (fldOf wSlot) 5) [K, 1, B, 0, S] = true := by
    rw [hf]
    simp [fitsB]
    omega
  unfold wordR
  rw [hl, if_pos ⟨rfl, by decide, hfit⟩, hf]
  simp only [wordF, List.getElem?_cons_zero, Option.getD_some, List.tail_cons, Nat.shiftLeft_eq, Nat.or_zero]
  have m1 : K * 2 ^ 0 % 18446744073709551616 = K := by omega
  have m2 : 1 * 2 ^ 24 % 18446744073709551616 = 16777216 := by simp
  have m3 : B * 2 ^ 25 % 18446744073709551616 = B * 33554432 := by rw [Nat.mod_eq_of_lt (by omega)]
  have m4 : 0 * 2 ^ 26 % 18446744073709551616 = 0 := by simp
  have m5 : S * 2 ^ 48 % 18446744073709551616 = S * 281474976710656 := by rw [Nat.mod_eq_of_lt (by omega)]
  rw [m1, m2, m3, m4, m5, Nat.zero_or, ← Nat.or_assoc, ← Nat.or_assoc]
  have o1 := or_fits K 1 24 (by omega)
  have o2 := or_fits (K + 16777216) B 25 (by omega)
  have o3 := or_fits (K + 16777216 + B * 33554432) S 48 (by omega)
  simp only [Nat.reducePow, Nat.one_mul] at o1
  simp only [Nat.reducePow] at o2
  simp only [Nat.reducePow] at o3
  rw [o1, o2, o3]
set_option maxRecDepth 100000 in
theorem seal_head (a b c d s : Nat) : sealG 0 [a, b, c, d, s, 17219] = hdW (a % 2048) (b % 128) (c % 4) (d % 2) := by
  have hm : cutG 0 [a, b, c, d, s, 17219] = [a &&& (2 ^ 11 - 1), b &&& (2 ^ 7 - 1), c &&& (2 ^ 2 - 1), d &&& (2 ^ 1 - 1), 0, 17219] := by simp [cutG, wOf, mkG, wHead]
  have h1 : a % 2048 < 2048 := Nat.mod_lt _ (by omega)
  have h2 : b % 128 < 128 := Nat.mod_lt _ (by omega)
  have h3 : c % 4 < 4 := Nat.mod_lt _ (by omega)
  have h4 : d % 2 < 2 := Nat.mod_lt _ (by omega)
  have hB : hdB (a % 2048) (b % 128) (c % 4) (d % 2) = a % 2048 + (b % 128) * 2048 + (c % 4) * 262144 + (d % 2) * 1048576 + 0 * 2097152 + 17219 * 137438953472 := by unfold hdB; omega
  have hw : wOf 0 = wHead := rfl
  unfold sealG hdW
  rw [hm, Nat.and_two_pow_sub_one_eq_mod, Nat.and_two_pow_sub_one_eq_mod, Nat.and_two_pow_sub_one_eq_mod, Nat.and_two_pow_sub_one_eq_mod, hw]
  have e1 := word_hd _ _ _ _ 0 h1 h2 h3 h4 (by omega)
  rw [e1, ← hB]
  have hs := sumW_lt (hdB (a % 2048) (b % 128) (c % 4) (d % 2))
  rw [show ([a % 2048, b % 128, c % 4, d % 2, 0, 17219] : List Nat).set 4 (sumW (hdB (a % 2048) (b % 128) (c % 4) (d % 2))) = [a % 2048, b % 128, c % 4, d % 2, sumW (hdB (a % 2048) (b % 128) (c % 4) (d % 2)), 17219] from rfl]
  generalize sumW (hdB (a % 2048) (b % 128) (c % 4) (d % 2)) = q at *
  rw [word_hd _ _ _ _ q h1 h2 h3 h4 hs, hB]
  omega
set_option maxRecDepth 100000 in
theorem seal_slot (a d s : Nat) : sealG 1 [a, 1, d, 0, s] = slW (a % 16777216) (d % 2) := by
  have hm : cutG 1 [a, 1, d, 0, s] = [a &&& (2 ^ 24 - 1), 1, d &&& (2 ^ 1 - 1), 0, 0] := by simp [cutG, wOf, mkG, wSlot]
  have h1 : a % 16777216 < 16777216 := Nat.mod_lt _ (by omega)
  have h4 : d % 2 < 2 := Nat.mod_lt _ (by omega)
  have hB : slB (a % 16777216) (d % 2) = a % 16777216 + 16777216 + (d % 2) * 33554432 + 0 * 281474976710656 := by unfold slB; omega
  have hw : wOf 1 = wSlot := rfl
  unfold sealG slW
  rw [hm, Nat.and_two_pow_sub_one_eq_mod, Nat.and_two_pow_sub_one_eq_mod, hw]
  have e1 := word_sl _ _ 0 h1 h4 (by omega)
  rw [e1, ← hB]
  have hs := sumW_lt (slB (a % 16777216) (d % 2))
  rw [show ([a % 16777216, 1, d % 2, 0, 0] : List Nat).set 4 (sumW (slB (a % 16777216) (d % 2))) = [a % 16777216, 1, d % 2, 0, sumW (slB (a % 16777216) (d % 2))] from rfl]
  generalize sumW (slB (a % 16777216) (d % 2)) = q at *
  rw [word_sl _ _ q h1 h4 hs, hB]
  omega
theorem hdW_lt (a b c d : Nat) (h1 : a < 2048) (h2 : b < 128) (h3 : c < 4) (h4 : d < 2) : hdW a b c d < 9007199254740992 := by
  have := sumW_lt (hdB a b c d)
  unfold hdW
  generalize sumW (hdB a b c d) = q at *
  unfold hdB
  omega
theorem slW_lt (a d : Nat) (h1 : a < 16777216) (h4 : d < 2) : slW a d < 18446744073709551616 := by
  have := sumW_lt (slB a d)
  unfold slW
  generalize sumW (slB a d) = q at *
  unfold slB
  omega
end Go.Proofs.YtogchafnnkajfaaGreat
namespace Go.Proofs.YtogchafnnkajfaaGreat
set_option linter.unusedVariables false
open Go.RowKit
attribute [local go_sem] Oper.semAt_some
def b01 (b : Bool) : Nat := if b = true then 1 else 0
theorem b01_lt (b : Bool) : b01 b < 2 := by cases b <;> decide
theorem number_any (b : Bool) (W : World) :
    Calls Tryz.prog 140 #[.bool b] W fun e w' => e = .returned (.int .u64 (b01 b : Int)) ∧ W = w' := by
  cases b
  · go_enter Tryz.func140, Tryz.ntmps140
    go_wp2_with fail
    go_ret
    exact ⟨rfl, rfl⟩
  · go_enter Tryz.func140, Tryz.ntmps140
    go_wp2_with fail
    go_ret
    exact ⟨rfl, rfl⟩
def mSize (n : Int) : Int := if n < 1 ∨ 1024 < n then 0 else n + 1
theorem msize_any (n : Int) (W : World) :
    Calls Tryz.prog 108 #[.int .i64 n] W fun e w' => e = .returned (.int .i64 (mSize n)) ∧ W = w' := by
  by_cases h1 : n < 1
  · have HE : Hid (mSize n = 0) := by show _ = _; unfold mSize; rw [if_pos (.inl h1)]
    go_enter Tryz.func108, Tryz.ntmps108
    go_wp2_with fail
    go_ret
    exact ⟨by rw [HE.out]; rfl, rfl⟩
  · by_cases h2 : 1024 < n
    · have HE : Hid (mSize n = 0) := by show _ = _; unfold mSize; rw [if_pos (.inr h2)]
      go_enter Tryz.func108, Tryz.ntmps108
      go_wp2_with fail
      go_ret
      exact ⟨by rw [HE.out]; rfl, rfl⟩
    · have HE : Hid (mSize n = n + 1) := by show _ = _; unfold mSize; rw [if_neg (by omega)]
      have e2 : IntKind.i64.wrap (n + 1) = n + 1 := IntWalk.i64_in _ (by omega)
      go_enter Tryz.func108, Tryz.ntmps108
      go_wp2_with fail
      go_ret
      exact ⟨by rw [HE.out]; rfl, rfl⟩
theorem low_nat (x : Int) (y n : Nat) (hn : n ≤ 64) (e : IntKind.u64.wrap x = (y : Int)) (hy : y < 18446744073709551616) : y &&& (2 ^ n - 1) = (x % ((2 ^ n : Nat) : Int)).toNat := by
  have h := low_bits x n hn
  have h2 : 2 ^ n ≤ 18446744073709551616 := by
    have := Nat.pow_le_pow_right (n := 2) (by omega) hn
    simpa using this
  have h0 : 0 < 2 ^ n := Nat.pow_pos (by omega)
  rw [e, u64_and_nat _ _ hy (by omega)] at h
  exact Int.ofNat.inj h
structure Sl where
  valid : Bool
  dirty : Bool
  block : Int
  stamp : Int
deriving DecidableEq
def Sl.cells (s : Sl) : List Value := [.bool s.valid, .bool s.dirty, .int .i64 s.block, .int .i64 s.stamp]
def Sl.v (s : Sl) : Value := .agg #[.bool s.valid, .bool s.dirty, .int .i64 s.block, .int .i64 s.stamp]
def Sl.word (s : Sl) : Nat := if s.valid = true then slW (s.block % 16777216).toNat (b01 s.dirty) else 0
theorem low24 (x : Int) (y : Nat) (e : IntKind.u64.wrap x = (y : Int)) (hy : y < 18446744073709551616) : y % 16777216 = (x % 16777216).toNat := by
  have h := low_nat x y 24 (by omega) e hy
  rw [Nat.and_two_pow_sub_one_eq_mod] at h
  exact h
set_option maxRecDepth 100000 in
set_option maxHeartbeats 1000000 in
theorem mword_any (s : Sl) (W : World) :
    Calls Tryz.prog 146 #[s.v] W fun e w' => e = .returned (.int .u64 (s.word : Int)) ∧ Below W.heap.size W w' := by
  obtain ⟨v, d, b, st⟩ := s
  obtain ⟨b1, e1, hb1⟩ := any_u64 b
  have HB := Lib.hid (low24 b b1 e1 hb1)
  unfold Sl.v
  have hb0 : Below W.heap.size W (W.alloc (.cells #[.bool v, .bool d, .int .i64 b, .int .i64 st] 31)) := (Below.refl _ W).alloc (Nat.le_refl _) _
  cases v
  · have HE : Hid ((Sl.mk false d b st).word = 0) := rfl
    go_enter Tryz.func146, Tryz.ntmps146
    go_wp2_with fail
    go_ret
    exact ⟨by rw [HE.out]; rfl, hb0⟩
  · have HE : Hid ((Sl.mk true d b st).word = slW (b % 16777216).toNat (b01 d)) := rfl
    have hd2 := b01_lt d
    have HS : Hid (sealG 1 [b1, 1, b01 d, 0, 0] = slW (b1 % 16777216) (b01 d)) := by show _ = _; rw [seal_slot, Nat.mod_eq_of_lt hd2]
    go_enter Tryz.func146, Tryz.ntmps146
    go_wp2_with fail
    have C0 := Cs.new W 31 #[.bool true, .bool d, .int .i64 b, .int .i64 st]
    have x1 := C0.cell 1
    have x2 := C0.cell 2
    change _ = some (Value.bool d) at x1
    change _ = some (Value.int .i64 b) at x2
    have hg : W.heap.size < (W.alloc (.cells #[.bool true, .bool d, .int .i64 b, .int .i64 st] 31)).heap.size := C0.lt
    have hlt := b01_lt d
    have hwv : W64 [b1, 1, b01 d, 0, 0] := by
      intro x hx
      simp only [List.mem_cons, List.not_mem_nil, or_false] at hx
      omega
    have HW := Lib.hid hwv
    generalize (W.alloc _) = V at *
    generalize hgq : W.heap.size = g at *
    clear C0 hwv
    have hr := Reads.new V.drew #[.int .u64 (b1 : Int), .int .u64 1, .int .u64 (b01 d : Int), .int .u64 0, .int .u64 0] 26
    have HR := Lib.hid hr
    clear hr
    have hbA : Below V.heap.size V (V.alloc (.cells #[.int .u64 (b1 : Int), .int .u64 1, .int .u64 (b01 d : Int), .int .u64 0, .int .u64 0] 26)).drew := ((Below.refl _ V).alloc (Nat.le_refl _) _).drew
    have y1 := (hbA.cell (p := ⟨g, 1, none⟩) hg).trans x1
    have y2 := (hbA.cell (p := ⟨g, 2, none⟩) hg).trans x2
    go_region_held3 (fun w' => w'.cell? ⟨g, 1, none⟩ = some (.bool d) ∧ w'.cell? ⟨g, 2, none⟩ = some (.int .i64 b)) (first | exact z12 | exact ⟨y1, y2⟩ | exact ⟨x1, x2⟩)
      (first
        | (go_at_call 140; refine (number_any d _).mono ?_; rintro e w1 ⟨rfl, rfl⟩)
        | (go_at_call 107; refine (sealed_any 1 (by omega) (some ⟨V.heap.size, 0, none⟩) 5 5 [b1, 1, b01 d, 0, 0] _ HR.out rfl rfl HW.out).mono ?_; rintro e w2 ⟨rfl, hb2⟩; have hb3 : Below V.heap.size V w2 := hbA.trans (hb2.mono hbA.size); have z12 : w2.cell? ⟨g, 1, none⟩ = some (.bool d) ∧ w2.cell? ⟨g, 2, none⟩ = some (.int .i64 b) := ⟨(hb3.cell (p := ⟨g, 1, none⟩) hg).trans x1, (hb3.cell (p := ⟨g, 2, none⟩) hg).trans x2⟩))
    go_wp2_with fail
    go_ret
    exact ⟨by rw [HE.out, HS.out, ← HB.out]; rfl, by rw [hgq]; exact hb0.trans (hb3.mono (Nat.le_of_lt hg))⟩
end Go.Proofs.YtogchafnnkajfaaGreat
namespace Go.Proofs.YtogchafnnkajfaaGreat
set_option linter.unusedVariables false
open Go.RowKit
attribute [local go_sem] Oper.semAt_some
def hdI (n : Nat) (chunk mode : Int) (op : Bool) : Nat := hdW (n % 2048) (chunk % 128).toNat (mode % 4).toNat (b01 op)
theorem low_mod (x : Int) (y n : Nat) (hn : n ≤ 64) (e : IntKind.u64.wrap x = (y : Int)) (hy : y < 18446744073709551616) : y % 2 ^ n = (x % ((2 ^ n : Nat) : Int)).toNat := by
  have h := low_nat x y n hn e hy
  rwa [Nat.and_two_pow_sub_one_eq_mod] at h
set_option maxRecDepth 100000 in
set_option maxHeartbeats 1000000 in
theorem mhead_any (W : World) (m n c : Nat) (A : Option Addr) (x : Value) (chunk mode : Int) (op : Bool) (hC : Cs W m 160 #[x, .slice A n c, .int .i64 chunk, .int .i64 mode, .bool op]) (hn : n ≤ 1000000) :
    Calls Tryz.prog 100 #[.pointer (some ⟨m, 0, none⟩)] W fun e w' => e = .returned (.int .u64 (hdI n chunk mode op : Int)) ∧ Below W.heap.size W w' := by
  obtain ⟨c1, e1, hc1⟩ := any_u64 chunk
  obtain ⟨d1, e2, hd1⟩ := any_u64 mode
  have e0 : IntKind.u64.wrap (n : Int) = (n : Int) := by rw [wrap_nat, Nat.mod_eq_of_lt (by omega)]
  have hb := b01_lt op
  have HS : Hid (sealG 0 [n, c1, d1, b01 op, 0, 17219] = hdI n chunk mode op) := by
    show _ = _
    have h1 := low_mod chunk c1 7 (by omega) e1 hc1
    have h2 := low_mod mode d1 2 (by omega) e2 hd1
    rw [seal_head, Nat.mod_eq_of_lt hb]
    unfold hdI
    rw [← show c1 % 128 = (chunk % 128).toNat from h1, ← show d1 % 4 = (mode % 4).toNat from h2]
  have x1 := hC.cell 1
  have x2 := hC.cell 2
  have x3 := hC.cell 3
  have x4 := hC.cell 4
  change _ = some (Value.slice A n c) at x1
  change _ = some (Value.int .i64 chunk) at x2
  change _ = some (Value.int .i64 mode) at x3
  change _ = some (Value.bool op) at x4
  have hg : m < W.heap.size := hC.lt
  have hwv : W64 [n, c1, d1, b01 op, 0, 17219] := by
    intro x hx
    simp only [List.mem_cons, List.not_mem_nil, or_false] at hx
    omega
  have HW := Lib.hid hwv
  clear hwv hC
  have HR := Lib.hid (Reads.new W.drew #[.int .u64 (n : Int), .int .u64 (c1 : Int), .int .u64 (d1 : Int), .int .u64 (b01 op : Int), .int .u64 0, .int .u64 17219] 26)
  have hbA : Below W.heap.size W (W.alloc (.cells #[.int .u64 (n : Int), .int .u64 (c1 : Int), .int .u64 (d1 : Int), .int .u64 (b01 op : Int), .int .u64 0, .int .u64 17219] 26)).drew := ((Below.refl _ W).alloc (Nat.le_refl _) _).drew
  have y := fun k => hbA.cell (p := ⟨m, k, none⟩) hg
  have yy := And.intro ((y 1).trans x1) (And.intro ((y 2).trans x2) (And.intro ((y 3).trans x3) ((y 4).trans x4)))
  clear y
  go_enter Tryz.func100, Tryz.ntmps100
  go_wp2_with fail
  go_region_held3 (fun w' => w'.cell? ⟨m, 1, none⟩ = some (.slice A n c) ∧ w'.cell? ⟨m, 2, none⟩ = some (.int .i64 chunk) ∧ w'.cell? ⟨m, 3, none⟩ = some (.int .i64 mode) ∧ w'.cell? ⟨m, 4, none⟩ = some (.bool op)) (first | exact z | exact yy | exact ⟨x1, x2, x3, x4⟩)
    (first
      | (go_at_call 140; refine (number_any op _).mono ?_; rintro e w1 ⟨rfl, rfl⟩)
      | (go_at_call 107; refine (sealed_any 0 (by omega) (some ⟨W.heap.size, 0, none⟩) 6 6 [n, c1, d1, b01 op, 0, 17219] _ HR.out rfl rfl HW.out).mono ?_; rintro e w2 ⟨rfl, hb2⟩; have hb3 : Below W.heap.size W w2 := hbA.trans (hb2.mono hbA.size); have z : w2.cell? ⟨m, 1, none⟩ = some (.slice A n c) ∧ w2.cell? ⟨m, 2, none⟩ = some (.int .i64 chunk) ∧ w2.cell? ⟨m, 3, none⟩ = some (.int .i64 mode) ∧ w2.cell? ⟨m, 4, none⟩ = some (.bool op) := ⟨(hb3.cell (p := ⟨m, 1, none⟩) hg).trans x1, (hb3.cell (p := ⟨m, 2, none⟩) hg).trans x2, (hb3.cell (p := ⟨m, 3, none⟩) hg).trans x3, (hb3.cell (p := ⟨m, 4, none⟩) hg).trans x4⟩))
  go_wp2_with fail
  go_ret
  exact ⟨by rw [HS.out]; rfl, hb3⟩
end Go.Proofs.YtogchafnnkajfaaGreat
namespace Go.Proofs.YtogchafnnkajfaaGreat
set_option linter.unusedVariables false
open Go.RowKit
attribute [local go_sem] Oper.semAt_some
theorem m_write (k sp : Nat) (W : World) : Sem.run Tryz.prog (method (k + 1) 176 (.pointer (some ⟨sp, 0, none⟩)) "Write") W = .ok (192, .pointer (some ⟨sp, 0, none⟩)) W := by kernel_rfl
theorem m_flush (k sp : Nat) (W : World) : Sem.run Tryz.prog (method (k + 1) 176 (.pointer (some ⟨sp, 0, none⟩)) "Flush") W = .ok (189, .pointer (some ⟨sp, 0, none⟩)) W := by kernel_rfl
theorem m_read (k sp : Nat) (W : World) : Sem.run Tryz.prog (method (k + 1) 176 (.pointer (some ⟨sp, 0, none⟩)) "Read") W = .ok (190, .pointer (some ⟨sp, 0, none⟩)) W := by kernel_rfl
theorem m_size (k sp : Nat) (W : World) : Sem.run Tryz.prog (method (k + 1) 176 (.pointer (some ⟨sp, 0, none⟩)) "Size") W = .ok (191, .pointer (some ⟨sp, 0, none⟩)) W := by kernel_rfl
theorem wput_log (S : DS) (d a v : Nat) : (S.wput d a v).log.length ≤ S.log.length + 1 := by
  unfold DS.wput
  simp
theorem write_log (S : DS) (d a : Int) (v : Nat) : (S.write d a v).log.length ≤ S.log.length + 1 := by
  unfold DS.write
  split
  · omega
  · split
    · show S.log.length ≤ _; omega
    · have := wput_log S.burnt d.toNat a.toNat v
      have h2 : S.burnt.log = S.log := by unfold DS.burnt; rfl
      rw [h2] at this
      exact this
theorem swrite_log (S : DS) (i n : Nat) (a : Int) (v : Nat) : (S.swrite i n a v).log.length ≤ S.log.length + 1 := by
  unfold DS.swrite
  split
  · exact write_log _ _ _ _
  · omega
def DS.first (S : DS) (i n w : Nat) : DS := if S.swE i n 0 ≠ 0 then S.swrite i n 0 w else (S.swrite i n 0 w).flush (i : Int)
def DS.firstR (S : DS) (i n w : Nat) : Int := if S.swE i n 0 ≠ 0 then S.swE i n 0 else (S.swrite i n 0 w).chkF (i : Int)
def FirstP (W : World) (F : Nat → Prop) (g i n w : Nat) (S : DS) (e : Ending) (W' : World) : Prop :=
  e = .returned (.int .i64 (S.firstR i n w)) ∧ ∃ F', DskAt W' F' g (S.first i n w) ∧ Turn F F' W W'
set_option maxRecDepth 100000 in
set_option maxHeartbeats 1000000 in
theorem first_any (W : World) (F : Nat → Prop) (g sp i n m w : Nat) (S : DS) (y1 y2 y3 y4 : Value) (h : DskAt W F g S) (hs : SpanAt W sp g i n) (hsp : ¬ F sp) (hC : Cs W m 160 #[spanV sp, y1, y2, y3, y4]) (hm : ¬ F m) (hn : n ≤ 65536) (hv : w < 18446744073709551616) (hlog : S.log.length < 1000000) (hwr : S.wr ≤ 1000000000) :
    Calls Tryz.prog 99 #[.pointer (some ⟨m, 0, none⟩), .int .u64 (w : Int)] W (FirstP W F g i n w S) := by
  have x0 := hC.cell 0
  change _ = some (spanV sp) at x0
  unfold spanV at x0
  go_enter Tryz.func99, Tryz.ntmps99
  go_wp2_with fail
  rw [m_write]
  go_wp2_with fail
  refine (swrite_any W F g sp i n S 0 w h hs hsp hn hv (Nat.le_of_lt hlog) hwr).mono ?_
  rintro e w1 ⟨rfl, F1, hd1, ht1⟩
  have HD1 := Lib.hid hd1
  have HS1 : Hid (SpanAt w1 sp g i n) := Cs.fr hs ht1.1 hsp
  have HC1 := Lib.hid (hC.fr ht1.1 hm)
  have hsp1 := ht1.out (Cs.lt hs) hsp
  have hl1 := swrite_log S i n 0 w
  have x1 := HC1.out.cell 0
  change _ = some (spanV sp) at x1
  unfold spanV at x1
  have HF : Hid (S.first i n w = if S.swE i n 0 ≠ 0 then S.swrite i n 0 w else (S.swrite i n 0 w).flush (i : Int)) := rfl
  have HR : Hid (S.firstR i n w = if S.swE i n 0 ≠ 0 then S.swE i n 0 else (S.swrite i n 0 w).chkF (i : Int)) := rfl
  generalize S.swE i n 0 = q at *
  generalize S.swrite i n 0 w = S1 at *
  clear h hs hC x0
  by_cases hq : q = 0
  · subst hq
    go_wp2_with fail
    rw [m_flush]
    go_wp2_with fail
    refine (sflush_any w1 F1 g sp i n S1 HD1.out HS1.out hsp1 (by omega)).mono ?_
    rintro e w2 ⟨rfl, F2, hd2, ht2⟩
    go_wp2_with fail
    go_ret
    exact ⟨by rw [HR.out, if_neg (by simp)]; rfl, F2, by rw [HF.out, if_neg (by simp)]; exact hd2, ht1.trans ht2⟩
  · have hq2 : (q != 0) = true := by simpa using hq
    go_wp2_with fail
    go_ret
    exact ⟨by rw [HR.out, if_pos hq]; rfl, F1, by rw [HF.out, if_pos hq]; exact hd1, ht1⟩
end Go.Proofs.YtogchafnnkajfaaGreat
namespace Go.Proofs.YtogchafnnkajfaaGreat
set_option linter.unusedVariables false
open Go.RowKit
attribute [local go_sem] Oper.semAt_some
theorem wput_wr (S : DS) (d a v : Nat) : (S.wput d a v).wr ≤ S.wr + 1 := by
  unfold DS.wput
  exact Int.le_refl _
theorem write_wr (S : DS) (d a : Int) (v : Nat) : (S.write d a v).wr ≤ S.wr + 1 := by
  unfold DS.write
  split
  · omega
  · split
    · show S.wr ≤ _; omega
    · exact wput_wr S.burnt d.toNat a.toNat v
theorem swrite_wr (S : DS) (i n : Nat) (a : Int) (v : Nat) : (S.swrite i n a v).wr ≤ S.wr + 1 := by
  unfold DS.swrite
  split
  · exact write_wr _ _ _ _
  · omega
end Go.Proofs.YtogchafnnkajfaaGreat
namespace Go.Proofs.YtogchafnnkajfaaGreat
set_option linter.unusedVariables false
open Go.RowKit
def one (now dur : List Nat) (log : List (Nat × Nat × Nat)) (fuse : Int) (down : Bool) (wr : Int) : DS := ⟨[(now, dur, false)], log, fuse, down, wr⟩
def setFrom (now : List Nat) (a : Nat) (l : List Nat) : Nat → List Nat
  | 0 => now
  | k + 1 => (setFrom now a l k).set (a + k) (l[k]?.getD 0)
theorem setFrom_length (now : List Nat) (a : Nat) (l : List Nat) (k : Nat) : (setFrom now a l k).length = now.length := by
  induction k with
  | zero => rfl
  | succ k ih => rw [setFrom, List.length_set, ih]
end Go.Proofs.YtogchafnnkajfaaGreat
namespace Go.Proofs.YtogchafnnkajfaaGreat
set_option linter.unusedVariables false
open Go.RowKit
attribute [local go_sem] Oper.semAt_some
def fmtE (slots chunk : Int) (n : Nat) : Int := if mSize slots = 0 ∨ chunk < 1 ∨ 64 < chunk then 1 else if (n : Int) < mSize slots then 3 else 0
theorem slot_info : (Tryz.prog.info? 31).map (fun i => (i.zero, i.size, i.bytes)) = some (some (.agg #[.bool false, .bool false, .int .i64 0, .int .i64 0]), 4, 24) := by kernel_rfl
theorem run_make_slots (n : Nat) (hn : n ≤ 1000000) (w : World) : (Instr.makeSlice 56 (.int .i64 (n : Int)) (.int .i64 (n : Int))).run Tryz.prog w = .ok (.slice (some ⟨w.heap.size, 0, none⟩) n n) (w.alloc (.cells (madeCells #[.bool false, .bool false, .int .i64 0, .int .i64 0] (n * 4)) 31)) := by
  obtain ⟨i0, hi0, hz0, hz1, hz2⟩ := info_parts slot_info
  have := run_make (P := Tryz.prog) w 56 31 i0 _ Tryz.underlying56 hi0 hz0 .i64 .i64 (n : Int) (n : Int) (by omega) (Int.le_refl _) (by rw [hz2]; omega) (by omega)
  rw [this]
  simp only [Int.toNat_natCast, hz1]
  rfl
end Go.Proofs.YtogchafnnkajfaaGreat
namespace Go.Proofs.YtogchafnnkajfaaGreat
set_option linter.unusedVariables false
open Go.RowKit
attribute [local go_sem] Oper.semAt_some
theorem Turn.tg {F F' : Nat → Prop} {W W' : World} (h : Turn (fun j => F j ∧ j < W.heap.size) F' W W') : Turn F F' W W' :=
  ⟨h.1.mono (fun j _ hj => hj.1), fun j hj => (h.2 j hj).elim (fun a => .inl a.1) .inr⟩
def fmtW (now : List Nat) (k : Nat) (chunk : Int) : List Nat := (setFrom (now.set 0 0) 1 (List.replicate k 0) k).set 0 (hdI k chunk 0 false)
theorem fmtW_length (now : List Nat) (k : Nat) (chunk : Int) : (fmtW now k chunk).length = now.length := by rw [fmtW, List.length_set, setFrom_length, List.length_set]
theorem hdI_lt (n : Nat) (chunk mode : Int) (op : Bool) : hdI n chunk mode op < 18446744073709551616 := by
  have := hdW_lt (n % 2048) (chunk % 128).toNat (mode % 4).toNat (b01 op) (Nat.mod_lt _ (by omega)) (by omega) (by omega) (b01_lt op)
  unfold hdI
  omega
end Go.Proofs.YtogchafnnkajfaaGreat
namespace Go.Proofs.YtogchafnnkajfaaGreat
set_option linter.unusedVariables false
open Go.RowKit
def clr (x at_ : Nat) : Nat := x % 2 ^ at_ + x / 2 ^ (at_ + 16) * 2 ^ (at_ + 16)
theorem and_clr (x at_ m : Nat) (hx : x < 18446744073709551616) (ha : at_ ≤ 48) (hm : m = (2 ^ at_ - 1) ||| ((2 ^ (48 - at_) - 1) <<< (at_ + 16))) : x &&& m = clr x at_ := by
  have hlt : x % 2 ^ at_ < 2 ^ (at_ + 16) := Nat.lt_of_lt_of_le (Nat.mod_lt _ (Nat.pow_pos (by omega))) (Nat.pow_le_pow_right (by omega) (by omega))
  unfold clr
  rw [← or_fits _ _ _ hlt, ← Nat.shiftRight_eq_div_pow, ← Nat.shiftLeft_eq]
  apply Nat.eq_of_testBit_eq
  intro j
  rw [hm, Nat.testBit_and, Nat.testBit_or, Nat.testBit_or, Nat.testBit_two_pow_sub_one, Nat.testBit_shiftLeft, Nat.testBit_two_pow_sub_one, Nat.testBit_mod_two_pow, Nat.testBit_shiftLeft, Nat.testBit_shiftRight]
  by_cases h1 : j < at_
  · simp [h1, show ¬ at_ + 16 ≤ j by omega]
  · by_cases h2 : at_ + 16 ≤ j
    · by_cases h3 : j < 64
      · simp [h1, h2, show j - (at_ + 16) < 48 - at_ by omega, show at_ + 16 + (j - (at_ + 16)) = j by omega]
      · have : x.testBit j = false := Nat.testBit_lt_two_pow (Nat.lt_of_lt_of_le hx (by rw [show 18446744073709551616 = 2 ^ 64 from rfl]; exact Nat.pow_le_pow_right (by omega) (by omega)))
        simp [this, h1, h2, show at_ + 16 + (j - (at_ + 16)) = j by omega]
    · simp [h1, h2]
theorem clr_le (x at_ : Nat) : clr x at_ ≤ x := by
  unfold clr
  have e1 := Nat.mod_add_div x (2 ^ at_)
  have e2 := Nat.div_mul_le_self (x / 2 ^ at_) (2 ^ 16)
  rw [Nat.div_div_eq_div_mul, ← Nat.pow_add] at e2
  have e3 : x / 2 ^ (at_ + 16) * 2 ^ (at_ + 16) = 2 ^ at_ * (x / 2 ^ (at_ + 16) * 2 ^ 16) := by rw [Nat.pow_add]; ac_rfl
  have e4 := Nat.mul_le_mul_left (2 ^ at_) e2
  omega
def rsum (x at_ : Nat) : Nat := clr x at_ ||| (sumW (clr x at_) * 2 ^ at_)
theorem rsize_any (n : Int) (W : World) :
    Calls Tryz.prog 87 #[.int .i64 n] W fun e w' => e = .returned (.int .i64 (mSize n)) ∧ W = w' := by
  by_cases h1 : n < 1
  · have HE : Hid (mSize n = 0) := by show _ = _; unfold mSize; rw [if_pos (.inl h1)]
    go_enter Tryz.func87, Tryz.ntmps87
    go_wp2_with fail
    go_ret
    exact ⟨by rw [HE.out]; rfl, rfl⟩
  · by_cases h2 : 1024 < n
    · have HE : Hid (mSize n = 0) := by show _ = _; unfold mSize; rw [if_pos (.inr h2)]
      go_enter Tryz.func87, Tryz.ntmps87
      go_wp2_with fail
      go_ret
      exact ⟨by rw [HE.out]; rfl, rfl⟩
    · have HE : Hid (mSize n = n + 1) := by show _ = _; unfold mSize; rw [if_neg (by omega)]
      have e2 : IntKind.i64.wrap (n + 1) = n + 1 := IntWalk.i64_in _ (by omega)
      go_enter Tryz.func87, Tryz.ntmps87
      go_wp2_with fail
      go_ret
      exact ⟨by rw [HE.out]; rfl, rfl⟩
theorem clr21_bits (x : Nat) (h : x < 18446744073709551616) : bits .andNot .u64 (x : Int) 137436856320 = ((clr x 21 : Nat) : Int) := by
  have e := u64_andNot_nat x 137436856320 h (by omega)
  rw [and_clr x 21 _ h (by omega) (by rfl)] at e
  exact e
theorem rsum21_or (c s : Nat) (hc : c < 18446744073709551616) (hs : s < 65536) : bits .or .u64 (c : Int) ((s : Int) * 2097152) = ((c ||| (s * 2 ^ 21) : Nat) : Int) := by
  have e := u64_or_nat c (s * 2097152) hc (by omega)
  rw [show ((s * 2097152 : Nat) : Int) = (s : Int) * 2097152 by omega] at e
  exact e
set_option maxRecDepth 100000 in
set_option maxHeartbeats 1000000 in
theorem rsum21_any (x : Nat) (W : World) (hx : x < 18446744073709551616) :
    Calls Tryz.prog 42 #[.int .u64 (x : Int), .int .i64 21] W fun e w' => e = .returned (.int .u64 ((rsum x 21 : Nat) : Int)) ∧ Below W.heap.size W w' := by
  have hcb := clr21_bits x hx
  have hcl : clr x 21 < 18446744073709551616 := Nat.lt_of_le_of_lt (clr_le x 21) hx
  have HR : Hid (rsum x 21 = clr x 21 ||| (sumW (clr x 21) * 2 ^ 21)) := rfl
  generalize clr x 21 = c at *
  have hR := Reads.new W #[.int .u64 (c : Int)] 26
  have hb : Below W.heap.size W (W.alloc (.cells #[.int .u64 (c : Int)] 26)) := (Below.refl _ W).alloc (Nat.le_refl _) _
  have HU := Lib.hid (show Reads (W.alloc (.cells #[.int .u64 (c : Int)] 26)) (some ⟨W.heap.size, 0, none⟩) (uv [c]) from hR)
  clear hR
  go_enter Tryz.func42, Tryz.ntmps42
  go_wp2_with fail
  refine (refWords_sum (some ⟨W.heap.size, 0, none⟩) 1 1 [c] _ rfl HU.out (by intro y hy; simp at hy; omega) (by omega)).mono ?_
  rintro e w1 ⟨rfl, rfl⟩
  have hext := extendC_lt 0 [c]
  have HS : Hid (sumW c = shortC (extendC 0 [c])) := rfl
  generalize extendC 0 [c] = ex at *
  go_wp2_with fail
  refine (refShort_any ex _ hext).mono ?_
  rintro e w2 ⟨rfl, rfl⟩
  rw [← HS.out]
  have hs := sumW_lt c
  have ho := rsum21_or c (sumW c) hcl hs
  have e3 : IntKind.u64.wrap ((sumW c : Int) * 2097152) = (sumW c : Int) * 2097152 := by
    rw [show (sumW c : Int) * 2097152 = ((sumW c * 2097152 : Nat) : Int) by omega, wrap_nat, Nat.mod_eq_of_lt (by omega)]
  generalize sumW c = s at *
  go_wp2_with fail
  go_ret
  refine ⟨ret_int ?_, hb⟩
  rw [HR.out]
theorem clr48_bits (x : Nat) (h : x < 18446744073709551616) : bits .andNot .u64 (x : Int) 18446462598732840960 = ((clr x 48 : Nat) : Int) := by
  have e := u64_andNot_nat x 18446462598732840960 h (by omega)
  rw [and_clr x 48 _ h (by omega) (by rfl)] at e
  exact e
theorem rsum48_or (c s : Nat) (hc : c < 18446744073709551616) (hs : s < 65536) : bits .or .u64 (c : Int) ((s : Int) * 281474976710656) = ((c ||| (s * 2 ^ 48) : Nat) : Int) := by
  have e := u64_or_nat c (s * 281474976710656) hc (by omega)
  rw [show ((s * 281474976710656 : Nat) : Int) = (s : Int) * 281474976710656 by omega] at e
  exact e
set_option maxRecDepth 100000 in
set_option maxHeartbeats 1000000 in
theorem rsum48_any (x : Nat) (W : World) (hx : x < 18446744073709551616) :
    Calls Tryz.prog 42 #[.int .u64 (x : Int), .int .i64 48] W fun e w' => e = .returned (.int .u64 ((rsum x 48 : Nat) : Int)) ∧ Below W.heap.size W w' := by
  have hcb := clr48_bits x hx
  have hcl : clr x 48 < 18446744073709551616 := Nat.lt_of_le_of_lt (clr_le x 48) hx
  have HR : Hid (rsum x 48 = clr x 48 ||| (sumW (clr x 48) * 2 ^ 48)) := rfl
  generalize clr x 48 = c at *
  have hR := Reads.new W #[.int .u64 (c : Int)] 26
  have hb : Below W.heap.size W (W.alloc (.cells #[.int .u64 (c : Int)] 26)) := (Below.refl _ W).alloc (Nat.le_refl _) _
  have HU := Lib.hid (show Reads (W.alloc (.cells #[.int .u64 (c : Int)] 26)) (some ⟨W.heap.size, 0, none⟩) (uv [c]) from hR)
  clear hR
  go_enter Tryz.func42, Tryz.ntmps42
  go_wp2_with fail
  refine (refWords_sum (some ⟨W.heap.size, 0, none⟩) 1 1 [c] _ rfl HU.out (by intro y hy; simp at hy; omega) (by omega)).mono ?_
  rintro e w1 ⟨rfl, rfl⟩
  have hext := extendC_lt 0 [c]
  have HS : Hid (sumW c = shortC (extendC 0 [c])) := rfl
  generalize extendC 0 [c] = ex at *
  go_wp2_with fail
  refine (refShort_any ex _ hext).mono ?_
  rintro e w2 ⟨rfl, rfl⟩
  rw [← HS.out]
  have hs := sumW_lt c
  have ho := rsum48_or c (sumW c) hcl hs
  have e3 : IntKind.u64.wrap ((sumW c : Int) * 281474976710656) = (sumW c : Int) * 281474976710656 := by
    rw [show (sumW c : Int) * 281474976710656 = ((sumW c * 281474976710656 : Nat) : Int) by omega, wrap_nat, Nat.mod_eq_of_lt (by omega)]
  generalize sumW c = s at *
  go_wp2_with fail
  go_ret
  refine ⟨ret_int ?_, hb⟩
  rw [HR.out]
end Go.Proofs.YtogchafnnkajfaaGreat
namespace Go.Proofs.YtogchafnnkajfaaGreat
set_option linter.unusedVariables false
open Go.RowKit
theorem hd_base (K L C : Nat) (hK : K < 2048) (hL : L < 128) (hC : C < 4) :
    bits BinOp.or IntKind.u64 (bits BinOp.or IntKind.u64 (bits BinOp.or IntKind.u64 (K : Int) ((L : Int) * 2048)) ((C : Int) * 262144)) 2366561339834368 = ((hdB K L C 0 : Nat) : Int) := by
  have e1 : (L : Int) * 2048 = ((L * 2 ^ 11 : Nat) : Int) := by omega
  have e2 : (C : Int) * 262144 = ((C * 2 ^ 18 : Nat) : Int) := by omega
  have e4 : (2366561339834368 : Int) = ((17219 * 2 ^ 37 : Nat) : Int) := by rfl
  rw [e1, e2, e4, u64_or_nat _ _ (by omega) (by omega), or_fits _ _ _ (by omega), u64_or_nat _ _ (by omega) (by omega), or_fits _ _ _ (by omega), u64_or_nat _ _ (by omega) (by omega), or_fits _ _ _ (by omega)]
  unfold hdB
  congr 1
theorem or_mid (a b c n k : Nat) (ha : a < 2 ^ n) (hb : b * 2 ^ n + a < 2 ^ k) : (a + c * 2 ^ k) ||| (b * 2 ^ n) = a + b * 2 ^ n + c * 2 ^ k := by
  rw [← or_fits a c k (by omega), Nat.or_assoc, Nat.or_comm (c * 2 ^ k), ← Nat.or_assoc, or_fits a b n ha, or_fits _ c k (by omega)]
theorem hd_open (K L C : Nat) (hK : K < 2048) (hL : L < 128) (hC : C < 4) :
    bits BinOp.or IntKind.u64 ((hdB K L C 0 : Nat) : Int) 1048576 = ((hdB K L C 1 : Nat) : Int) := by
  have h0 : hdB K L C 0 = (K + L * 2048 + C * 262144) + 17219 * 2 ^ 37 := by unfold hdB; omega
  have h1 : hdB K L C 1 = (K + L * 2048 + C * 262144) + 1 * 2 ^ 20 + 17219 * 2 ^ 37 := by unfold hdB; omega
  rw [show (1048576 : Int) = ((1 * 2 ^ 20 : Nat) : Int) from rfl, u64_or_nat _ _ (by omega) (by omega), h0, or_mid _ 1 17219 20 37 (by omega) (by omega), h1]
theorem rsum_hd (K L C d : Nat) (hK : K < 2048) (hL : L < 128) (hC : C < 4) (hd : d < 2) : rsum (hdB K L C d) 21 = hdW K L C d := by
  have h0 : hdB K L C d = (K + L * 2048 + C * 262144 + d * 1048576) + 17219 * 2 ^ 37 := by unfold hdB; omega
  have hc : clr (hdB K L C d) 21 = hdB K L C d := by
    unfold clr
    rw [h0]
    omega
  have hs := sumW_lt (hdB K L C d)
  unfold rsum hdW
  rw [hc]
  generalize sumW (hdB K L C d) = s at *
  rw [h0, or_mid _ s 17219 21 37 (by omega) (by omega)]
  omega
theorem sl_base (K : Nat) (hK : K < 16777216) : bits BinOp.or IntKind.u64 (K : Int) 16777216 = ((slB K 0 : Nat) : Int) := by
  rw [show (16777216 : Int) = ((1 * 2 ^ 24 : Nat) : Int) from rfl, u64_or_nat _ _ (by omega) (by omega), or_fits _ _ _ (by omega)]
  unfold slB
  congr 1
theorem sl_dirty (K : Nat) (hK : K < 16777216) : bits BinOp.or IntKind.u64 ((slB K 0 : Nat) : Int) 33554432 = ((slB K 1 : Nat) : Int) := by
  have h0 : slB K 0 < 2 ^ 25 := by unfold slB; omega
  rw [show (33554432 : Int) = ((1 * 2 ^ 25 : Nat) : Int) from rfl, u64_or_nat _ _ (by omega) (by omega), or_fits _ _ _ h0]
  unfold slB
  congr 1
theorem rsum_sl (K d : Nat) (hK : K < 16777216) (hd : d < 2) : rsum (slB K d) 48 = slW K d := by
  have h0 : slB K d < 2 ^ 26 := by unfold slB; omega
  have hc : clr (slB K d) 48 = slB K d := by
    unfold clr
    rw [Nat.mod_eq_of_lt (by omega), Nat.div_eq_of_lt (by omega)]
    omega
  have hs := sumW_lt (slB K d)
  unfold rsum slW
  rw [hc]
  generalize sumW (slB K d) = s at *
  rw [or_fits _ s 48 (by omega)]
set_option maxRecDepth 100000 in
set_option maxHeartbeats 1000000 in
theorem rhead_any (n : Nat) (chunk mode : Int) (op : Bool) (W : World) :
    Calls Tryz.prog 12 #[.int .i64 (n : Int), .int .i64 chunk, .int .i64 mode, .bool op] W fun e w' => e = .returned (.int .u64 ((hdI n chunk mode op : Nat) : Int)) ∧ Below W.heap.size W w' := by
  have h1 := low_bits (n : Int) 11 (by omega)
  have h2 := low_bits chunk 7 (by omega)
  have h3 := low_bits mode 2 (by omega)
  rw [show ((2 ^ 11 - 1 : Nat) : Int) = 2047 from rfl] at h1
  rw [show ((2 ^ 7 - 1 : Nat) : Int) = 127 from rfl, show ((2 ^ 7 : Nat) : Int) = 128 from rfl] at h2
  rw [show ((2 ^ 2 - 1 : Nat) : Int) = 3 from rfl, show ((2 ^ 2 : Nat) : Int) = 4 from rfl] at h3
  rw [show (((n : Int) % ((2 ^ 11 : Nat) : Int)).toNat : Int) = ((n % 2048 : Nat) : Int) by omega] at h1
  have b1 : n % 2048 < 2048 := Nat.mod_lt _ (by omega)
  have b2 : (chunk % 128).toNat < 128 := by omega
  have b3 : (mode % 4).toNat < 4 := by omega
  have HH : Hid (hdI n chunk mode op = hdW (n % 2048) (chunk % 128).toNat (mode % 4).toNat (b01 op)) := rfl
  generalize n % 2048 = K at *
  generalize (chunk % 128).toNat = L at *
  generalize (mode % 4).toNat = C at *
  have HB := Lib.hid (hd_base K L C b1 b2 b3)
  have HO := Lib.hid (hd_open K L C b1 b2 b3)
  have HR := Lib.hid (fun d hd => rsum_hd K L C d b1 b2 b3 hd)
  have hbl : ∀ d, d < 2 → hdB K L C d < 18446744073709551616 := fun d hd => by unfold hdB; omega
  have HBL := Lib.hid hbl
  clear hbl
  cases op
  · go_enter Tryz.func12, Tryz.ntmps12
    go_wp2_with fail
    rw [HB.out]
    refine (rsum21_any _ W (HBL.out 0 (by omega))).mono ?_
    rintro e w1 ⟨rfl, hb⟩
    rw [HR.out 0 (by omega)]
    go_wp2_with fail
    go_ret
    exact ⟨by rw [HH.out]; rfl, hb⟩
  · go_enter Tryz.func12, Tryz.ntmps12
    go_wp2_with fail
    rw [HB.out, HO.out]
    refine (rsum21_any _ W (HBL.out 1 (by omega))).mono ?_
    rintro e w1 ⟨rfl, hb⟩
    rw [HR.out 1 (by omega)]
    go_wp2_with fail
    go_ret
    exact ⟨by rw [HH.out]; rfl, hb⟩
end Go.Proofs.YtogchafnnkajfaaGreat
namespace Go.Proofs.YtogchafnnkajfaaGreat
set_option linter.unusedVariables false
open Go.RowKit
set_option maxRecDepth 100000 in
set_option maxHeartbeats 1000000 in
theorem rword_any (s : Sl) (W : World) :
    Calls Tryz.prog 14 #[s.v] W fun e w' => e = .returned (.int .u64 (s.word : Int)) ∧ Below W.heap.size W w' := by
  obtain ⟨v, d, b, st⟩ := s
  unfold Sl.v
  have hb0 : Below W.heap.size W (W.alloc (.cells #[.bool v, .bool d, .int .i64 b, .int .i64 st] 31)) := (Below.refl _ W).alloc (Nat.le_refl _) _
  cases v
  · have HE : Hid ((Sl.mk false d b st).word = 0) := rfl
    go_enter Tryz.func14, Tryz.ntmps14
    go_wp2_with fail
    go_ret
    exact ⟨by rw [HE.out]; rfl, hb0⟩
  · have h1 := low_bits b 24 (by omega)
    rw [show ((2 ^ 24 - 1 : Nat) : Int) = 16777215 from rfl, show ((2 ^ 24 : Nat) : Int) = 16777216 from rfl] at h1
    have b1 : (b % 16777216).toNat < 16777216 := by omega
    have HE : Hid ((Sl.mk true d b st).word = slW (b % 16777216).toNat (b01 d)) := rfl
    generalize (b % 16777216).toNat = K at *
    have HB := Lib.hid (sl_base K b1)
    have HO := Lib.hid (sl_dirty K b1)
    have HR := Lib.hid (fun d hd => rsum_sl K d b1 hd)
    have hbl : ∀ d, d < 2 → slB K d < 18446744073709551616 := fun d hd => by unfold slB; omega
    have HBL := Lib.hid hbl
    clear hbl
    cases d
    · go_enter Tryz.func14, Tryz.ntmps14
      go_wp2_with fail
      rw [HB.out]
      refine (rsum48_any _ _ (HBL.out 0 (by omega))).mono ?_
      rintro e w1 ⟨rfl, hb⟩
      rw [HR.out 0 (by omega)]
      go_wp2_with fail
      go_ret
      exact ⟨by rw [HE.out]; rfl, hb0.trans (hb.mono hb0.size)⟩
    · go_enter Tryz.func14, Tryz.ntmps14
      go_wp2_with fail
      rw [HB.out, HO.out]
      refine (rsum48_any _ _ (HBL.out 1 (by omega))).mono ?_
      rintro e w1 ⟨rfl, hb⟩
      rw [HR.out 1 (by omega)]
      go_wp2_with fail
      go_ret
      exact ⟨by rw [HE.out]; rfl, hb0.trans (hb.mono hb0.size)⟩
end Go.Proofs.YtogchafnnkajfaaGreat
namespace Go.Proofs.YtogchafnnkajfaaGreat
set_option linter.unusedVariables false
open Go.RowKit
def setZ (l : List Nat) : Nat → List Nat
  | 0 => l
  | k + 1 => (setZ l k).set (1 + k) 0
theorem setZ_length (l : List Nat) (k : Nat) : (setZ l k).length = l.length := by
  induction k with
  | zero => rfl
  | succ k ih => rw [setZ, List.length_set, ih]
theorem setZ_set (l : List Nat) (k v : Nat) : (setZ l k).set 0 v = setZ (l.set 0 v) k := by
  induction k with
  | zero => rfl
  | succ k ih => rw [setZ, setZ, List.set_comm _ _ (by omega), ih]
theorem setFrom_zeros (l : List Nat) (m k : Nat) (h : k ≤ m) : setFrom l 1 (List.replicate m 0) k = setZ l k := by
  induction k with
  | zero => rfl
  | succ k ih =>
    have e : ((List.replicate m 0)[k]?.getD 0) = 0 := by
      rw [List.getElem?_replicate]
      split <;> rfl
    rw [setFrom, setZ, ih (by omega), e]
theorem fmtW_eq (l : List Nat) (k : Nat) (chunk : Int) : fmtW l k chunk = setZ (l.set 0 (hdI k chunk 0 false)) k := by
  rw [fmtW, setFrom_zeros _ _ _ (Nat.le_refl _), setZ_set, List.set_set]
set_option maxRecDepth 100000 in
set_option maxHeartbeats 2000000 in
theorem rformat_no (W : World) (A : Option Addr) (n c : Nat) (slots chunk : Int) (hE : fmtE slots chunk n ≠ 0) :
    Calls Tryz.prog 48 #[.slice A n c, .int .i64 slots, .int .i64 chunk] W fun e w' => e = .returned (.int .i64 (fmtE slots chunk n)) ∧ W = w' := by
  by_cases hz : slots < 1
  · have HZ : Hid (fmtE slots chunk n = 1) := by show _ = _; unfold fmtE; rw [if_pos (.inl (by unfold mSize; rw [if_pos (.inl hz)]))]
    clear hE
    go_enter Tryz.func48, Tryz.ntmps48
    go_wp2_with fail
    go_ret
    exact ⟨by rw [HZ.out]; rfl, rfl⟩
  · by_cases hy : 1024 < slots
    · have HZ : Hid (fmtE slots chunk n = 1) := by show _ = _; unfold fmtE; rw [if_pos (.inl (by unfold mSize; rw [if_pos (.inr hy)]))]
      clear hE
      go_enter Tryz.func48, Tryz.ntmps48
      go_wp2_with fail
      go_ret
      exact ⟨by rw [HZ.out]; rfl, rfl⟩
    · by_cases h1 : chunk < 1
      · have HZ : Hid (fmtE slots chunk n = 1) := by show _ = _; unfold fmtE; rw [if_pos (.inr (.inl h1))]
        clear hE
        go_enter Tryz.func48, Tryz.ntmps48
        go_wp2_with fail
        go_ret
        exact ⟨by rw [HZ.out]; rfl, rfl⟩
      · by_cases h2 : 64 < chunk
        · have HZ : Hid (fmtE slots chunk n = 1) := by show _ = _; unfold fmtE; rw [if_pos (.inr (.inr h2))]
          clear hE
          go_enter Tryz.func48, Tryz.ntmps48
          go_wp2_with fail
          go_ret
          exact ⟨by rw [HZ.out]; rfl, rfl⟩
        · have hm : mSize slots = slots + 1 := by unfold mSize; rw [if_neg (by omega)]
          have h3 : (n : Int) < mSize slots := by
            unfold fmtE at hE
            rw [if_neg (by omega)] at hE
            split at hE
            · assumption
            · exact absurd rfl hE
          have HZ : Hid (fmtE slots chunk n = 3) := by show _ = _; unfold fmtE; rw [if_neg (by omega), if_pos h3]
          clear hE
          go_enter Tryz.func48, Tryz.ntmps48
          go_wp2_with fail
          refine (rsize_any slots W).mono ?_
          rintro e w' ⟨rfl, rfl⟩
          go_wp2_with fail
          go_ret
          exact ⟨by rw [HZ.out]; rfl, rfl⟩
set_option maxRecDepth 100000 in
set_option maxHeartbeats 2000000 in
theorem rformat_ok (W : World) (n0 base b n c k : Nat) (chunk : Int) (l : List Nat) (hO : W.ownsRow base 26 1 (.slice (some ⟨b, 0, none⟩) n c) n (uv l)) (hn : l.length = n) (hnb : n0 ≤ b) (hk : 1 ≤ k ∧ k ≤ 1024) (hkn : k + 1 ≤ n) (hn2 : n ≤ 65536) (hc : 1 ≤ chunk ∧ chunk ≤ 64) (hw0 : n0 ≤ W.heap.size) :
    Calls Tryz.prog 48 #[.slice (some ⟨b, 0, none⟩) n c, .int .i64 (k : Int), .int .i64 chunk] W fun e w' => e = .returned (.int .i64 0) ∧ w'.ownsRow base 26 1 (.slice (some ⟨b, 0, none⟩) n c) n (uv (setZ (l.set 0 (hdI k chunk 0 false)) k)) ∧ Below n0 W w' := by
  have hm : mSize (k : Int) = (k : Int) + 1 := by unfold mSize; rw [if_neg (by omega)]
  have t0 : ¬ (k : Int) < 1 := by omega
  have t1 : ¬ 1024 < (k : Int) := by omega
  have t2 : ¬ chunk < 1 := by omega
  have t3 : ¬ 64 < chunk := by omega
  have t4 : ¬ (n : Int) < (k : Int) + 1 := by omega
  have HN := Lib.hid hn
  have HO := Lib.hid hO
  clear hn hO
  go_enter Tryz.func48, Tryz.ntmps48
  go_wp2_with fail
  refine (rsize_any (k : Int) W).mono ?_
  rintro e w' ⟨rfl, rfl⟩
  rw [hm]
  go_wp2_with fail
  refine (rhead_any k chunk 0 false W).mono ?_
  rintro e w1 ⟨rfl, hb1⟩
  have hO1 := own_keepB HO.out hb1
  generalize hhv : hdI k chunk 0 false = hv at *
  have HHV := Lib.hid hhv
  clear hhv
  have f0 := hO1.frozenAt 0
  have c0 := hO1.cellAt 0 (by omega)
  rw [uv_at _ _ (by rw [HN.out]; omega)] at c0
  have hst := (hO1.stored 0 (.int .u64 (hv : Int))).1
  rw [uv_set] at hst
  have HST := Lib.hid hst
  have hbs := (hb1.mono hw0).setCell (p := ⟨b, 0, none⟩) hnb (.int .u64 (hv : Int))
  generalize (l[0]?.getD 0) = x0 at c0
  clear hst hO1 HO
  go_wp2_with fail
  generalize (w1.setCell _ _) = V at HST hbs ⊢
  clear c0 f0 hb1
  have HL0 : Hid ((l.set 0 hv).length = n) := by show _ = _; rw [List.length_set, HN.out]
  generalize hl0 : l.set 0 hv = l0 at *
  have HLL := Lib.hid hl0
  clear hl0
  go_loopw [7] (fun x wr => ∃ j : Nat, j ≤ k ∧ x = .int .i64 j ∧ wr.ownsRow base 26 1 (.slice (some ⟨b, 0, none⟩) n c) n (uv (setZ l0 j)) ∧ Below n0 W wr) (fun x _ => k - (intOf x).toNat)
  case atStart => exact ⟨0, by omega, rfl, HST.out, hbs⟩
  case round =>
    obtain ⟨j, hj, rfl, hown, hbr⟩ := hrel
    by_cases hlt : j < k
    · have f1 := hown.frozenAt (1 + j)
      have c1 := hown.cellAt (1 + j) (by omega)
      rw [uv_at _ _ (by rw [setZ_length, HL0.out]; omega)] at c1
      have hst := (hown.stored (1 + j) (.int .u64 (0 : Int))).1
      rw [show (Value.int IntKind.u64 0) = .int .u64 ((0 : Nat) : Int) from rfl, uv_set] at hst
      have HST2 : Hid ((wr.setCell ⟨b, 1 + j, none⟩ (.int .u64 0)).ownsRow base 26 1 (.slice (some ⟨b, 0, none⟩) n c) n (uv (setZ l0 (j + 1)))) := hst
      have hb3 := hbr.setCell (p := ⟨b, 1 + j, none⟩) hnb (.int .u64 (0 : Int))
      have e2 : IntKind.i64.wrap (1 + (j : Int)) = ((1 + j : Nat) : Int) := by rw [IntWalk.i64_in _ (by omega)]; omega
      have e3 : ((1 + j : Nat) : Int) < (n : Int) := by omega
      generalize ((setZ l0 j)[1 + j]?.getD 0) = x1 at c1
      clear hst hown
      go_wp2_with fail
      go_roundw
      case rel => exact ⟨j + 1, by omega, by go_num, HST2.out, hb3⟩
      case measure => simp [intOf]; omega
    · have hjk : j = k := by omega
      subst hjk
      have HO2 := Lib.hid hown
      clear hown
      go_wp2_with fail
      go_ret
      exact ⟨rfl, by rw [HHV.out, HLL.out]; exact HO2.out, hbr⟩
end Go.Proofs.YtogchafnnkajfaaGreat
namespace Go.Proofs.YtogchafnnkajfaaGreat
set_option linter.unusedVariables false
open Go.RowKit
attribute [local go_sem] Oper.semAt_some
theorem chunk_any (W : World) (m : Nat) (x y : Value) (chunk mode : Int) (op : Bool) (hC : Cs W m 160 #[x, y, .int .i64 chunk, .int .i64 mode, .bool op]) :
    Calls Tryz.prog 58 #[.pointer (some ⟨m, 0, none⟩)] W fun e w' => e = .returned (.int .i64 chunk) ∧ W = w' := by
  have c2 : W.cell? ⟨m, 2, none⟩ = some (.int .i64 chunk) := hC.cell 2
  go_enter Tryz.func58, Tryz.ntmps58
  go_wp2_with fail
  go_ret
  exact ⟨rfl, rfl⟩
theorem mode_any (W : World) (m : Nat) (x y : Value) (chunk mode : Int) (op : Bool) (hC : Cs W m 160 #[x, y, .int .i64 chunk, .int .i64 mode, .bool op]) :
    Calls Tryz.prog 112 #[.pointer (some ⟨m, 0, none⟩)] W fun e w' => e = .returned (.int .i64 mode) ∧ W = w' := by
  have c3 : W.cell? ⟨m, 3, none⟩ = some (.int .i64 mode) := hC.cell 3
  go_enter Tryz.func112, Tryz.ntmps112
  go_wp2_with fail
  go_ret
  exact ⟨rfl, rfl⟩
theorem clean_any (W : World) (m : Nat) (x y : Value) (chunk mode : Int) (op : Bool) (hC : Cs W m 160 #[x, y, .int .i64 chunk, .int .i64 mode, .bool op]) :
    Calls Tryz.prog 111 #[.pointer (some ⟨m, 0, none⟩)] W fun e w' => e = .returned (.bool (!op)) ∧ W = w' := by
  have c4 : W.cell? ⟨m, 4, none⟩ = some (.bool op) := hC.cell 4
  cases op
  · go_enter Tryz.func111, Tryz.ntmps111
    go_wp2_with fail
    go_ret
    exact ⟨rfl, rfl⟩
  · go_enter Tryz.func111, Tryz.ntmps111
    go_wp2_with fail
    go_ret
    exact ⟨rfl, rfl⟩
set_option maxRecDepth 100000 in
set_option maxHeartbeats 1000000 in
theorem mflush_any (W : World) (F : Nat → Prop) (g sp i n m : Nat) (S : DS) (y1 y2 y3 y4 : Value) (h : DskAt W F g S) (hs : SpanAt W sp g i n) (hsp : ¬ F sp) (hC : Cs W m 160 #[spanV sp, y1, y2, y3, y4]) (hlog : S.log.length ≤ 1000000) :
    Calls Tryz.prog 64 #[.pointer (some ⟨m, 0, none⟩)] W (FlushP W F g S (i : Int)) := by
  have x0 := hC.cell 0
  change _ = some (spanV sp) at x0
  unfold spanV at x0
  go_enter Tryz.func64, Tryz.ntmps64
  go_wp2_with fail
  rw [m_flush]
  go_wp2_with fail
  refine (sflush_any W F g sp i n S h hs hsp hlog).mono ?_
  rintro e w1 ⟨rfl, F1, hd1, ht1⟩
  go_wp2_with fail
  go_ret
  exact ⟨rfl, F1, hd1, ht1⟩
end Go.Proofs.YtogchafnnkajfaaGreat
namespace Go.Proofs.YtogchafnnkajfaaGreat
set_option linter.unusedVariables false
open Go.RowKit
def Seen (W : World) (b n : Nat) (S : List Int) : Prop :=
  ∃ D : DataW Unit, W.ownsMap Tryz.prog 3 (plainElem Tryz.prog 4) b n D ∧ ∀ x : Int, D.atKey (.int .i64 x) (.lit (.bool false)) = .lit (.bool (decide (x ∈ S)))
theorem Seen.made (W : World) : Seen (W.alloc (.map #[] 0)) W.heap.size 0 [] :=
  ⟨.map [], World.ownsMap_made W _ _ _, fun x => by simp [DataW.atKey]⟩
theorem Seen.keep {W W' : World} {b n : Nat} {S : List Int} (h : Seen W b n S) {row : Option Nat} (hg : W.grownBy W' row) (hne : some b ≠ row) : Seen W' b n S := by
  obtain ⟨D, h1, h2⟩ := h
  exact ⟨D, h1.kept hg hne, h2⟩
theorem Seen.fr {W W' : World} {b n : Nat} {S : List Int} {G : Nat → Prop} (h : Seen W b n S) (hf : Fr G W W') (hn : ¬ G b) : Seen W' b n S := by
  obtain ⟨D, ⟨es, clock, hb, r⟩, h2⟩ := h
  exact ⟨D, ⟨es, clock, (hf.block b (map_lt hb) hn).trans hb, r⟩, h2⟩
theorem Seen.mono {W : World} {b n n' : Nat} {S : List Int} (h : Seen W b n S) (hn : n ≤ n') : Seen W b n' S := by
  obtain ⟨D, h1, h2⟩ := h
  exact ⟨D, h1.mono hn, h2⟩
theorem elem_bool {P : Program} {e : TypeId} (he : P.underlying e = some .bool) {v : Value} {c : Bool} {ps : List MemPlace} (h : plainElem (H := Unit) P e v = some (.lit (.bool c), ps)) : v = .bool c := by
  unfold plainElem at h
  rw [he] at h
  cases v <;> simp at h
  rw [h.1]
theorem i64_wf (x : Int) (h : -9223372036854775808 ≤ x ∧ x ≤ 9223372036854775807) : (Lit.int .i64 x).wf = true := WalkArith.wf_i64 (by omega)
theorem Seen.look {W : World} {b n : Nat} {S : List Int} (h : Seen W b n S) (x : Int) (hx : -9223372036854775808 ≤ x ∧ x ≤ 9223372036854775807) :
    (Instr.lookup 168 (.map (some b)) (.int .i64 x) false).run Tryz.prog W = .ok (.bool (decide (x ∈ S))) W := by
  obtain ⟨D, h1, h2⟩ := h
  obtain ⟨v, ps, hrun, hv⟩ := h1.lookup (Maps.int_keyed Tryz.underlying3) Tryz.underlying168 (zero_bool W) (plainElem_bool Tryz.underlying4 false) (Maps.keyOf_int_mk Tryz.underlying3 (i64_wf x hx))
  rw [h2] at hv
  rw [elem_bool Tryz.underlying4 hv] at hrun
  exact hrun
theorem Seen.store {W : World} {b n : Nat} {S : List Int} (h : Seen W b n S) (hn : n < maxLen) (x : Int) (hx : -9223372036854775808 ≤ x ∧ x ≤ 9223372036854775807) :
    ∃ W', (Instr.mapUpdate 168 (.map (some b)) (.int .i64 x) (.bool true)).run Tryz.prog W = .ok () W' ∧ Seen W' b (n + 1) (S ++ [x]) ∧ W.grownBy W' (some b) := by
  obtain ⟨D, h1, h2⟩ := h
  have hk := Maps.keyOf_int_mk Tryz.underlying3 (i64_wf x hx)
  obtain ⟨W', hrun, h3, h4⟩ := h1.update (Maps.int_keyed Tryz.underlying3) Tryz.underlying168 hn hk (plainElem_bool Tryz.underlying4 true)
  refine ⟨W', hrun, ⟨_, h3, fun y => ?_⟩, h4⟩
  by_cases e : y = x
  · subst e
    rw [Maps.atKey_put_same h1.isMap ((Maps.int_keyed Tryz.underlying3).key hk)]
    simp
  · rw [Maps.atKey_put_other (by intro hc; injection hc with _ hc; exact e hc), h2]
    simp [e]
theorem split_hd (x : Nat) : splitR wHead x = [x % 2048, x / 2048 % 128, x / 262144 % 4, x / 1048576 % 2, x / 2097152 % 65536, x / 137438953472 % 65536] := by
  have hf : upto (fldOf wHead) 6 = [⟨0, 2047, by omega, by omega⟩, ⟨11, 127, by omega, by omega⟩, ⟨18, 3, by omega, by omega⟩, ⟨20, 1, by omega, by omega⟩, ⟨21, 65535, by omega, by omega⟩, ⟨37, 65535, by omega, by omega⟩] := by rfl
  unfold splitR splitF
  rw [if_pos (by decide), show wHead.length = 6 from rfl, hf]
  simp only [List.map_cons, List.map_nil, Nat.shiftRight_eq_div_pow]
  have a1 := Nat.and_two_pow_sub_one_eq_mod (x / 2 ^ 0) 11
  have a2 := Nat.and_two_pow_sub_one_eq_mod (x / 2 ^ 11) 7
  have a3 := Nat.and_two_pow_sub_one_eq_mod (x / 2 ^ 18) 2
  have a4 := Nat.and_two_pow_sub_one_eq_mod (x / 2 ^ 20) 1
  have a5 := Nat.and_two_pow_sub_one_eq_mod (x / 2 ^ 21) 16
  have a6 := Nat.and_two_pow_sub_one_eq_mod (x / 2 ^ 37) 16
  simp only [Nat.reducePow, Nat.reduceSub, Nat.div_one] at *
  rw [a1, a2, a3, a4, a5, a6]
theorem split_sl (x : Nat) : splitR wSlot x = [x % 16777216, x / 16777216 % 2, x / 33554432 % 2, x / 67108864 % 4194304, x / 281474976710656 % 65536] := by
  have hf : upto (fldOf wSlot) 5 = [⟨0, 16777215, by omega, by omega⟩, ⟨24, 1, by omega, by omega⟩, ⟨25, 1, by omega, by omega⟩, ⟨26, 4194303, by omega, by omega⟩, ⟨48, 65535, by omega, by omega⟩] := by rfl
  unfold splitR splitF
  rw [if_pos (by decide), show wSlot.length = 5 from rfl, hf]
  simp only [List.map_cons, List.map_nil, Nat.shiftRight_eq_div_pow]
  have a1 := Nat.and_two_pow_sub_one_eq_mod (x / 2 ^ 0) 24
  have a2 := Nat.and_two_pow_sub_one_eq_mod (x / 2 ^ 24) 1
  have a3 := Nat.and_two_pow_sub_one_eq_mod (x / 2 ^ 25) 1
  have a4 := Nat.and_two_pow_sub_one_eq_mod (x / 2 ^ 26) 22
  have a5 := Nat.and_two_pow_sub_one_eq_mod (x / 2 ^ 48) 16
  simp only [Nat.reducePow, Nat.reduceSub, Nat.div_one] at *
  rw [a1, a2, a3, a4, a5]
def slotS (w : Nat) : Sl := if w = 0 then ⟨false, false, 0, 0⟩ else ⟨decide (w / 16777216 % 2 = 1), decide (w / 33554432 % 2 = 1), ((w % 16777216 : Nat) : Int), 0⟩
def slotOk (w : Nat) : Bool := decide (w = 0 ∨ (w / 16777216 % 2 = 1 ∧ w = (slotS w).word))
end Go.Proofs.YtogchafnnkajfaaGreat
namespace Go.Proofs.YtogchafnnkajfaaGreat
set_option linter.unusedVariables false
open Go.RowKit
attribute [local go_sem] Oper.semAt_some
theorem slot_info4 : (Tryz.prog.info? 31).map (·.size) = some 4 := by kernel_rfl
set_option maxRecDepth 100000 in
theorem run_load_slot (W : World) (g : Nat) (s : Sl) (h : Cs W g 31 s.cells.toArray) : (loadVar 31 ⟨g, 0, none⟩).run Tryz.prog W = .ok s.v W :=
  run_loadVar_row W g 31 31 _ (0, 0) _ h Tryz.underlying31 rfl slot_info4
theorem res_slot_tmp {fn : Func} {p u : Tmp} (h : fn.results = #[.cell p 31, .tmp u]) (tmps : Array Value) (W : World) (g : Nat) (s : Sl) (hp : tmps.getD p undef = .pointer (some ⟨g, 0, none⟩)) (hg : Cs W g 31 s.cells.toArray) :
    (results fn tmps).run Tryz.prog W = .ok (.tuple #[s.v, tmps.getD u undef]) W := by
  have hl := run_load_slot W g s hg
  have hp' : tmps[p]?.getD undef = .pointer (some ⟨g, 0, none⟩) := by simpa using hp
  simp [results, h, hp', asAddr, hl, Result.andThen]
theorem Cs.put4 {W : World} {g : Nat} {t : TypeId} {a b c d : Value} (h : Cs W g t #[a, b, c, d]) (a' b' c' d' : Value) : Cs ((((W.setCell ⟨g, 0, none⟩ a').setCell ⟨g, 1, none⟩ b').setCell ⟨g, 2, none⟩ c').setCell ⟨g, 3, none⟩ d') g t #[a', b', c', d'] :=
  heap_setCell_same _ g 3 _ _ d' (heap_setCell_same _ g 2 _ _ c' (heap_setCell_same _ g 1 _ _ b' (heap_setCell_same _ g 0 _ _ a' h)))
theorem below_put4 {n g : Nat} {W0 W : World} (h : Below n W0 W) (hg : n ≤ g) (a' b' c' d' : Value) : Below n W0 ((((W.setCell ⟨g, 0, none⟩ a').setCell ⟨g, 1, none⟩ b').setCell ⟨g, 2, none⟩ c').setCell ⟨g, 3, none⟩ d') :=
  (((h.setCell (p := ⟨g, 0, none⟩) hg _).setCell (p := ⟨g, 1, none⟩) hg _).setCell (p := ⟨g, 2, none⟩) hg _).setCell (p := ⟨g, 3, none⟩) hg _
theorem put4_keep {W : World} {g3 g : Nat} {x0 x1 x2 x3 : Option Value} (h : W.cell? ⟨g3, 0, none⟩ = x0 ∧ W.cell? ⟨g3, 1, none⟩ = x1 ∧ W.cell? ⟨g3, 2, none⟩ = x2 ∧ W.cell? ⟨g3, 3, none⟩ = x3) (hne : g3 ≠ g) (a' b' c' d' : Value) :
    ((((W.setCell ⟨g, 0, none⟩ a').setCell ⟨g, 1, none⟩ b').setCell ⟨g, 2, none⟩ c').setCell ⟨g, 3, none⟩ d').cell? ⟨g3, 0, none⟩ = x0 ∧ ((((W.setCell ⟨g, 0, none⟩ a').setCell ⟨g, 1, none⟩ b').setCell ⟨g, 2, none⟩ c').setCell ⟨g, 3, none⟩ d').cell? ⟨g3, 1, none⟩ = x1 ∧
    ((((W.setCell ⟨g, 0, none⟩ a').setCell ⟨g, 1, none⟩ b').setCell ⟨g, 2, none⟩ c').setCell ⟨g, 3, none⟩ d').cell? ⟨g3, 2, none⟩ = x2 ∧ ((((W.setCell ⟨g, 0, none⟩ a').setCell ⟨g, 1, none⟩ b').setCell ⟨g, 2, none⟩ c').setCell ⟨g, 3, none⟩ d').cell? ⟨g3, 3, none⟩ = x3 := by
  have hb : ((((W.setCell ⟨g, 0, none⟩ a').setCell ⟨g, 1, none⟩ b').setCell ⟨g, 2, none⟩ c').setCell ⟨g, 3, none⟩ d').heap[g3]? = W.heap[g3]? :=
    (Below.heap_setCell _ _ _ g3 hne).trans ((Below.heap_setCell _ _ _ g3 hne).trans ((Below.heap_setCell _ _ _ g3 hne).trans (Below.heap_setCell _ _ _ g3 hne)))
  revert hb
  generalize ((((W.setCell ⟨g, 0, none⟩ a').setCell ⟨g, 1, none⟩ b').setCell ⟨g, 2, none⟩ c').setCell ⟨g, 3, none⟩ d') = V
  intro hb
  exact ⟨(World.cell?_of_block hb).trans h.1, (World.cell?_of_block hb).trans h.2.1, (World.cell?_of_block hb).trans h.2.2.1, (World.cell?_of_block hb).trans h.2.2.2⟩
set_option maxRecDepth 100000 in
set_option maxHeartbeats 2000000 in
theorem slot_any (w : Nat) (W : World) (hw : w < 18446744073709551616) :
    Calls Tryz.prog 109 #[.int .u64 (w : Int)] W fun e W' => e = .returned (.tuple #[(slotS w).v, .bool (slotOk w)]) ∧ Below W.heap.size W W' := by
  by_cases h0 : w = 0
  · subst h0
    go_enter Tryz.func109, Tryz.ntmps109
    go_wp2_with fail
    refine bodyPost_ret (res_slot_tmp rfl _ _ W.heap.size ⟨false, false, 0, 0⟩ rfl (Cs.new W _ _)) rfl ?_
    exact ⟨rfl, (Below.refl _ W).alloc (Nat.le_refl _) _⟩
  · have hS : slotS w = ⟨decide (w / 16777216 % 2 = 1), decide (w / 33554432 % 2 = 1), ((w % 16777216 : Nat) : Int), 0⟩ := by unfold slotS; rw [if_neg h0]
    have hO : slotOk w = decide (w / 16777216 % 2 = 1 ∧ w = (slotS w).word) := by unfold slotOk; congr 1; simp [h0]
    have HS := Lib.hid hS
    have HO := Lib.hid hO
    have HSP := Lib.hid (split_sl w)
    clear hS hO
    have t0 : ((w : Int) == 0) = false := by simpa using h0
    go_enter Tryz.func109, Tryz.ntmps109
    go_wp2_with fail
    have C0 := Cs.new W 31 #[.bool false, .bool false, .int .i64 0, .int .i64 0]
    have hb0 : Below W.heap.size W (W.alloc (.cells #[.bool false, .bool false, .int .i64 0, .int .i64 0] 31)) := (Below.refl _ W).alloc (Nat.le_refl _) _
    refine (widths_any 1 (by omega) _).mono ?_
    rintro e W1 ⟨g, rfl, hr1, hb1⟩
    rw [show wOf 1 = wSlot from rfl] at hr1 ⊢
    rw [show wSlot.length = 5 from rfl]
    have HC1 := Lib.hid (C0.below hb1 C0.lt)
    have HB1 := Lib.hid (hb0.trans (hb1.mono hb0.size))
    have HR1 := Lib.hid hr1
    clear C0 hb0 hr1 hb1
    go_wp2_with fail
    refine (split_all w (some ⟨g, 0, none⟩) 5 5 wSlot W1 rfl HR1.out (by omega) hw).mono ?_
    rintro e W2 ⟨B, d, rfl, hr2, hb2⟩
    rw [HSP.out] at hr2 ⊢
    rw [show splitE wSlot = 0 from rfl]
    have HC2 := Lib.hid (HC1.out.below hb2 HC1.out.lt)
    have HB2 := Lib.hid (HB1.out.trans (hb2.mono HB1.out.size))
    obtain ⟨b, off, rfl, hbl, hc⟩ := hr2.u (by simp)
    have c0 := hc 0 (by simp)
    have c1 := hc 1 (by simp)
    have c2 := hc 2 (by simp)
    simp only [List.getElem?_cons_zero, List.getElem?_cons_succ, Option.getD_some, Nat.add_zero] at c0 c1 c2
    simp only [List.length_cons, List.length_nil, Nat.zero_add, Nat.reduceAdd]
    have hq : w % 16777216 < 16777216 := Nat.mod_lt _ (by omega)
    have e1 : (w / 16777216 % 2 = 0) ∨ (w / 16777216 % 2 = 1) := by omega
    have e2 : (w / 33554432 % 2 = 0) ∨ (w / 33554432 % 2 = 1) := by omega
    generalize w % 16777216 = q at *
    generalize w / 16777216 % 2 = v at *
    generalize w / 33554432 % 2 = dd at *
    clear HC1 HB1 HR1 HSP hr2 hb2 hc
    have f0 := HC2.out.free 0
    have hlt2 := HC2.out.lt
    have n2 : IntKind.i64.wrap (q : Int) = q := IntWalk.i64_in _ (by omega)
    go_wp2_with fail
    go_region
    have hv : ((v : Int) == 1) = decide (v = 1) := by rcases e1 with rfl | rfl <;> rfl
    have hd : ((dd : Int) == 1) = decide (dd = 1) := by rcases e2 with rfl | rfl <;> rfl
    rw [hv, hd]
    have CT := Cs.new W2 31 #[.bool (decide (v = 1)), .bool (decide (dd = 1)), .int .i64 (q : Int), .int .i64 0]
    have HBW := Lib.hid (HB2.out.alloc HB2.out.size (.cells #[.bool (decide (v = 1)), .bool (decide (dd = 1)), .int .i64 (q : Int), .int .i64 0] 31))
    have HC3 := Lib.hid (HC2.out.alloc (.cells #[.bool (decide (v = 1)), .bool (decide (dd = 1)), .int .i64 (q : Int), .int .i64 0] 31))
    have HV : Hid ((decide (v = 1) = true) ↔ v = 1) := by show _ ↔ _; simp
    generalize decide (v = 1) = vb at *
    generalize decide (dd = 1) = db at *
    clear e1 e2 hv hd c0 c1 c2 HC2 HB2
    generalize hW3 : (W2.alloc _) = W3 at *
    generalize hg3 : W2.heap.size = g3 at *
    have k0 : W3.cell? ⟨g3, 0, none⟩ = some (.bool vb) := CT.cell 0
    have k1 : W3.cell? ⟨g3, 1, none⟩ = some (.bool db) := CT.cell 1
    have k2 : W3.cell? ⟨g3, 2, none⟩ = some (.int .i64 (q : Int)) := CT.cell 2
    have k3 : W3.cell? ⟨g3, 3, none⟩ = some (.int .i64 0) := CT.cell 3
    have f0 := HC3.out.free 0
    have f1 := HC3.out.free 1
    have f2 := HC3.out.free 2
    have f3 := HC3.out.free 3
    have hgl : W.heap.size < W3.heap.size := HC3.out.lt
    have hng : g3 ≠ W.heap.size := Nat.ne_of_gt hlt2
    have y0 := HC3.out.cell 0
    have y1 := HC3.out.cell 1
    have y2 := HC3.out.cell 2
    have y3 := HC3.out.cell 3
    cases vb
    · go_wp2_with fail
      refine wp_region_mix 9 10 (by kernel_rfl) (by decide +kernel) (fun w' => w'.cell? ⟨g3, 0, none⟩ = some (.bool false) ∧ w'.cell? ⟨g3, 1, none⟩ = some (.bool db) ∧ w'.cell? ⟨g3, 2, none⟩ = some (.int .i64 (q : Int)) ∧ w'.cell? ⟨g3, 3, none⟩ = some (.int .i64 0)) ⟨k0, k1, k2, k3⟩ ?_
      simp only [List.take_succ_cons, List.take_zero, List.drop_succ_cons, List.drop_zero]
      iterate 4
        refine ⟨?_, Or.inl ⟨by rfl, fun W' hS' => ?_⟩, fun _ _ _ h => h, ?_⟩
        rotate_left
        · obtain ⟨hs1, hs2, hs3, hs4⟩ := hS'
          go_simp
          with_reducible rfl
        simp only [Act.put, List.setIfInBounds_toArray, List.set_cons_zero, List.set_cons_succ]
      iterate 4
        refine ⟨_, Or.inr ⟨by rfl, rfl⟩, fun _ _ _ h => h, ?_⟩
        simp only [Act.put, List.setIfInBounds_toArray, List.set_cons_zero, List.set_cons_succ]
      refine ⟨?_, Or.inl ⟨by rfl, fun W' hS' => ?_⟩, fun _ _ _ h => h, ?_⟩
      rotate_left
      · obtain ⟨hs1, hs2, hs3, hs4⟩ := hS'
        go_simp
        with_reducible rfl
      simp only [Act.put, List.setIfInBounds_toArray, List.set_cons_zero, List.set_cons_succ]
      show wpSeqT _ _ _ _ _ _ _ _ _
      refine wpSeqT_step (fun K hK => ?_)
      go_simp
      refine hK _ _ (fun _ => put4_keep ⟨k0, k1, k2, k3⟩ hng _ _ _ _) ?_
      clear hK K
      refine wpSeqT_list _ _ _ _ (by omega) ?_
      go_wp2_with fail
      refine bodyPost_ret (res_slot_tmp rfl _ _ W.heap.size ⟨false, db, (q : Int), 0⟩ rfl (Cs.put4 HC3.out _ _ _ _)) rfl ?_
      refine ⟨?_, (below_put4 HBW.out (Nat.le_refl _) (.bool false) (.bool db) (.int .i64 (q : Int)) (.int .i64 0)).drew.drew⟩
      rw [HO.out, HS.out]
      have hv1 : ¬ v = 1 := by simpa using HV.out
      rw [decide_eq_false (by intro h; exact hv1 h.1)]
      rfl
    · go_wp2_with fail
      have kk2 : W3.drew.drew.cell? ⟨g3, 0, none⟩ = some (.bool true) ∧ W3.drew.drew.cell? ⟨g3, 1, none⟩ = some (.bool db) ∧ W3.drew.drew.cell? ⟨g3, 2, none⟩ = some (.int .i64 (q : Int)) ∧ W3.drew.drew.cell? ⟨g3, 3, none⟩ = some (.int .i64 0) := ⟨k0, k1, k2, k3⟩
      have kk : W3.drew.cell? ⟨g3, 0, none⟩ = some (.bool true) ∧ W3.drew.cell? ⟨g3, 1, none⟩ = some (.bool db) ∧ W3.drew.cell? ⟨g3, 2, none⟩ = some (.int .i64 (q : Int)) ∧ W3.drew.cell? ⟨g3, 3, none⟩ = some (.int .i64 0) := ⟨k0, k1, k2, k3⟩
      go_region_held3 (fun w' => w'.cell? ⟨g3, 0, none⟩ = some (.bool true) ∧ w'.cell? ⟨g3, 1, none⟩ = some (.bool db) ∧ w'.cell? ⟨g3, 2, none⟩ = some (.int .i64 (q : Int)) ∧ w'.cell? ⟨g3, 3, none⟩ = some (.int .i64 0)) (first | with_reducible exact kk | with_reducible exact kk2 | with_reducible exact z | exact put4_keep z hng _ _ _ _)
        (first | (go_at_call 146; refine (mword_any ⟨true, db, (q : Int), 0⟩ _).mono ?_; rintro e w2 ⟨rfl, hb2⟩; have z : w2.cell? ⟨g3, 0, none⟩ = some (.bool true) ∧ w2.cell? ⟨g3, 1, none⟩ = some (.bool db) ∧ w2.cell? ⟨g3, 2, none⟩ = some (.int .i64 (q : Int)) ∧ w2.cell? ⟨g3, 3, none⟩ = some (.int .i64 0) := ⟨(hb2.cell CT.lt).trans k0, (hb2.cell CT.lt).trans k1, (hb2.cell CT.lt).trans k2, (hb2.cell CT.lt).trans k3⟩; have HC4 := Lib.hid (Cs.below (w := W3.drew.drew) HC3.out hb2 HC3.out.lt); have p0 := HC4.out.free 0; have p1 := HC4.out.free 1; have p2 := HC4.out.free 2; have p3 := HC4.out.free 3; have x0 := HC4.out.cell 0; have x1 := HC4.out.cell 1; have x2 := HC4.out.cell 2; have x3 := HC4.out.cell 3))
      go_wp2_with fail
      refine bodyPost_ret (res_slot_tmp rfl _ _ W.heap.size ⟨true, db, (q : Int), 0⟩ rfl (Cs.put4 HC4.out _ _ _ _)) rfl ?_
      have hsz : W.heap.size ≤ W3.heap.size := Nat.le_of_lt hgl
      refine ⟨?_, below_put4 (HBW.out.drew.drew.trans (hb2.mono hsz)) (Nat.le_refl _) _ _ _ _⟩
      rw [HO.out, HS.out]
      have hv1 : v = 1 := by simpa using HV.out
      have hdec : decide (v = 1 ∧ w = (Sl.mk true db (q : Int) 0).word) = ((w : Int) == ((Sl.mk true db (q : Int) 0).word : Int)) := by
        generalize (Sl.mk true db (q : Int) 0).word = z
        rw [Bool.eq_iff_iff]
        simp [hv1]
        omega
      rw [hdec]
      rfl
end Go.Proofs.YtogchafnnkajfaaGreat
namespace Go.Proofs.YtogchafnnkajfaaGreat
set_option linter.unusedVariables false
open Go.RowKit
def hform (w : Nat) : Bool := decide (w / 137438953472 % 65536 = 17219 ∧ w / 2097152 % 65536 = sumW (clr w 21))
def hbad (w len : Nat) : Bool := decide (w / 9007199254740992 ≠ 0 ∨ w % 2048 < 1 ∨ 1024 < w % 2048 ∨ w / 2048 % 128 < 1 ∨ 64 < w / 2048 % 128 ∨ w / 262144 % 4 = 3 ∨ len < w % 2048 + 1)
def seenB (ws : List Nat) : Nat → List Int
  | 0 => []
  | k + 1 => if (slotS (ws[1 + k]?.getD 0)).valid = true then seenB ws k ++ [(slotS (ws[1 + k]?.getD 0)).block] else seenB ws k
def okAt (ws : List Nat) (k : Nat) : Bool := slotOk (ws[1 + k]?.getD 0) && !((slotS (ws[1 + k]?.getD 0)).valid && decide ((slotS (ws[1 + k]?.getD 0)).block ∈ seenB ws k))
def allOk (ws : List Nat) : Nat → Bool
  | 0 => true
  | k + 1 => allOk ws k && okAt ws k
def slotsU (ws : List Nat) (k : Nat) : List Sl := upto (fun i => slotS (ws[1 + i]?.getD 0)) k
def openE (ws : List Nat) : Int := if hform (ws[0]?.getD 0) = false then 2 else if hbad (ws[0]?.getD 0) ws.length = true then 24 else if allOk ws ((ws[0]?.getD 0) % 2048) = false then 24 else 0
theorem allOk_mono (ws : List Nat) (k n : Nat) (h : k ≤ n) (ha : allOk ws n = true) : allOk ws k = true := by
  induction n with
  | zero => obtain rfl : k = 0 := by omega
            exact ha
  | succ n ih =>
    by_cases e : k = n + 1
    · rw [e]; exact ha
    · rw [allOk, Bool.and_eq_true] at ha
      exact ih (by omega) ha.1
theorem allOk_false (ws : List Nat) (k n : Nat) (h : k < n) (hk : okAt ws k = false) : allOk ws n = false := by
  cases ha : allOk ws n
  · rfl
  · have := allOk_mono ws (k + 1) n h ha
    rw [allOk, hk, Bool.and_false] at this
    cases this
def scs (l : List Sl) : List Value := l.flatMap Sl.cells
theorem scs_snoc (l : List Sl) (s : Sl) : scs (l ++ [s]) = scs l ++ s.cells := by simp [scs]
theorem scs_length (l : List Sl) : (scs l).length = l.length * 4 := by
  induction l with
  | nil => rfl
  | cons a r ih => simp only [scs, List.flatMap_cons, List.length_append, List.length_cons] at ih ⊢; rw [ih]; simp [Sl.cells]; omega
theorem slotsU_length (ws : List Nat) (k : Nat) : (slotsU ws k).length = k := upto_length _ _
theorem slotsU_succ (ws : List Nat) (k : Nat) : slotsU ws (k + 1) = slotsU ws k ++ [slotS (ws[1 + k]?.getD 0)] := upto_succ _ _
theorem slotS_block (w : Nat) : 0 ≤ (slotS w).block ∧ (slotS w).block < 16777216 := by
  unfold slotS
  split
  · simp
  · have : w % 16777216 < 16777216 := Nat.mod_lt _ (by omega)
    constructor
    · show (0 : Int) ≤ ((w % 16777216 : Nat) : Int); omega
    · show ((w % 16777216 : Nat) : Int) < 16777216; omega
theorem seal_eq (w : Nat) (hw : w < 18446744073709551616) (h : hform w = true) :
    (w = sealG 0 [w % 2048, w / 2048 % 128, w / 262144 % 4, w / 1048576 % 2, w / 2097152 % 65536, w / 137438953472 % 65536]) ↔ w / 9007199254740992 = 0 := by
  unfold hform at h
  obtain ⟨ht, hs⟩ := of_decide_eq_true h
  have h1 : w % 2048 < 2048 := Nat.mod_lt _ (by omega)
  have h2 : w / 2048 % 128 < 128 := Nat.mod_lt _ (by omega)
  have h3 : w / 262144 % 4 < 4 := Nat.mod_lt _ (by omega)
  have h4 : w / 1048576 % 2 < 2 := Nat.mod_lt _ (by omega)
  rw [ht, seal_head, Nat.mod_eq_of_lt h1, Nat.mod_eq_of_lt h2, Nat.mod_eq_of_lt h3, Nat.mod_eq_of_lt h4]
  have hlt := hdW_lt _ _ _ _ h1 h2 h3 h4
  constructor
  · intro e
    rw [← e] at hlt
    exact Nat.div_eq_of_lt hlt
  · intro e
    have hB : clr w 21 = hdB (w % 2048) (w / 2048 % 128) (w / 262144 % 4) (w / 1048576 % 2) := by
      unfold clr hdB
      simp only [Nat.reducePow, Nat.reduceAdd]
      omega
    unfold hdW
    rw [← hB, ← hs, hB]
    unfold hdB
    omega
end Go.Proofs.YtogchafnnkajfaaGreat
namespace Go.Proofs.YtogchafnnkajfaaGreat
set_option linter.unusedVariables false
open Go.RowKit
attribute [local go_sem] Oper.semAt_some
theorem scs_one (l : List Sl) : ∀ v ∈ scs l, v.oneCell' = true := by
  intro v hv
  obtain ⟨s, _, h⟩ := List.mem_flatMap.1 hv
  simp only [Sl.cells, List.mem_cons, List.not_mem_nil, or_false] at h
  rcases h with rfl | rfl | rfl | rfl <;> rfl
theorem cloneS_any (A : Option Addr) (base c n : Nat) (l : List Sl) (w : World) (hn : l.length = n) (hA : w.ownsRow base 31 4 (.slice A n c) n (scs l)) (hl : n ≤ 1000000) :
    Calls Tryz.prog 110 #[.slice A n c] w fun e w' => ∃ v, e = .returned v ∧ w'.ownsRow w.heap.size 31 4 v n (scs l) ∧ Below w.heap.size w w' := by
  obtain ⟨i0, hi0, hz0, hz1, hz2⟩ := info_parts slot_info
  have hq := fun W => Lib.run_eql_slice_nil (P := Tryz.prog) W 56 31 A n c 0 0 Tryz.underlying56
  rcases A with _ | a
  · have h0 : n = 0 := by
      rcases Nat.eq_zero_or_pos n with h | h
      · exact h
      · obtain ⟨b, cap, h, _⟩ := hA.form h
        cases h
    subst h0
    have hl0 : l = [] := List.eq_nil_of_length_eq_zero hn
    subst hl0
    simp only [Option.isNone_none] at hq ⊢
    go_enter Tryz.func110, Tryz.ntmps110
    go_wp2
    go_ret
    exact ⟨_, rfl, World.ownsRow_nil _ _ _ _, Below.refl _ _⟩
  · have HN := Lib.hid hn
    have HR := Reads.of_own hA
    clear hn
    go_enter Tryz.func110, Tryz.ntmps110
    go_wp2_with (at_builtin; refine wpList_append_reads _ rfl _ _ _ rfl w.heap.size 31 i0 _ 4 24 Tryz.underlying56 hi0 hz0 hz1 hz2 rfl (by omega) (.slice (some ⟨w.heap.size, 0, none⟩) 0 0) 0 [] rfl (World.ownsRow_lit w #[] 0 (Nat.le_refl _) (by simp only [maxLen]; omega) rfl) (some a) n c (scs l) rfl (by rw [scs_length, HN.out]) (HR.keep ((Below.refl _ _).alloc (Nat.le_refl _) _)) (scs_one l) (by simp only [maxLen]; omega) (by omega) (by simp) ?_; intro v1 w1 hown1 hg1 hat1)
    go_ret
    refine ⟨v1, rfl, by simpa using hown1, ((Below.refl _ w).alloc (Nat.le_refl _) _).grown hg1 (by simp) ?_⟩
    intro k hk
    simp [Value.ownBlock] at hk
    omega
theorem slots_any (W : World) (base m c n : Nat) (A : Option Addr) (l : List Sl) (x y z t : Value) (hn : l.length = n) (hC : Cs W m 160 #[x, .slice A n c, y, z, t]) (hA : W.ownsRow base 31 4 (.slice A n c) n (scs l)) (hl : n ≤ 1000000) :
    Calls Tryz.prog 59 #[.pointer (some ⟨m, 0, none⟩)] W fun e w' => ∃ v, e = .returned v ∧ w'.ownsRow W.heap.size 31 4 v n (scs l) ∧ Below W.heap.size W w' := by
  have x1 : W.cell? ⟨m, 1, none⟩ = some (.slice A n c) := hC.cell 1
  go_enter Tryz.func59, Tryz.ntmps59
  go_wp2_with fail
  refine (cloneS_any A base c n l W hn hA hl).mono ?_
  rintro e w1 ⟨v, rfl, ho, hb⟩
  go_wp2_with fail
  go_ret
  exact ⟨v, rfl, ho, hb⟩
theorem scs_at (l : List Sl) (k : Nat) (s : Sl) (h : l[k]? = some s) : (scs l)[k * 4]? = some (.bool s.valid) ∧ (scs l)[k * 4 + 1]? = some (.bool s.dirty) ∧ (scs l)[k * 4 + 2]? = some (.int .i64 s.block) ∧ (scs l)[k * 4 + 3]? = some (.int .i64 s.stamp) := by
  induction l generalizing k with
  | nil => simp at h
  | cons y r ih =>
    rcases k with _ | k
    · simp at h; subst h; simp [scs, Sl.cells]
    · have := ih k (by simpa using h)
      have e : ∀ j, (scs (y :: r))[(k + 1) * 4 + j]? = (scs r)[k * 4 + j]? := by
        intro j
        rw [show (k + 1) * 4 + j = k * 4 + j + 1 + 1 + 1 + 1 by omega]
        simp [scs, Sl.cells]
      have e0 := e 0
      simp only [Nat.add_zero] at e0
      rw [e0, e 1, e 2, e 3]
      exact this
theorem scs_set (l : List Sl) (k : Nat) (s : Sl) (h : k < l.length) : scs (l.set k s) = ((((scs l).set (k * 4) (.bool s.valid)).set (k * 4 + 1) (.bool s.dirty)).set (k * 4 + 2) (.int .i64 s.block)).set (k * 4 + 3) (.int .i64 s.stamp) := by
  induction l generalizing k with
  | nil => simp at h
  | cons y r ih =>
    rcases k with _ | k
    · simp [scs, Sl.cells]
    · have := ih k (by simpa using h)
      rw [List.set_cons_succ]
      have e : scs (y :: r.set k s) = y.cells ++ scs (r.set k s) := by simp [scs]
      have e2 : scs (y :: r) = y.cells ++ scs r := by simp [scs]
      have hs : ∀ (q : List Value) (j : Nat) (v : Value), (y.cells ++ q).set ((k + 1) * 4 + j) v = y.cells ++ q.set (k * 4 + j) v := by
        intro q j v
        rw [List.set_append_right _ _ (by simp [Sl.cells]; omega)]
        congr 2
        simp [Sl.cells]; omega
      have hs0 := fun q v => hs q 0 v
      simp only [Nat.add_zero] at hs0
      rw [e, this, e2, hs0, hs, hs, hs]
end Go.Proofs.YtogchafnnkajfaaGreat
namespace Go.Proofs.YtogchafnnkajfaaGreat
set_option linter.unusedVariables false
open Go.RowKit
attribute [local go_sem] Oper.semAt_some m_write
structure CacheIn (W : World) (F Fc : Nat → Prop) (g sp m n : Nat) (S : DS) (ss : List Sl) (A : Option Addr) (c : Nat) (chunk mode : Int) (op : Bool) : Prop where
  dsk : DskAt W F g S
  inF : ∀ j, F j → Fc j
  span : SpanAt W sp g 2 n
  spF : ¬ F sp
  spC : Fc sp
  spm : sp ≠ m
  mF : ¬ F m
  mC : Fc m
  meta_ : Cs W m 160 #[spanV sp, .slice A ss.length c, .int .i64 chunk, .int .i64 mode, .bool op]
  row : W.ownsRow 0 31 4 (.slice A ss.length c) ss.length (scs ss)
  own : ∀ b, (Value.slice A ss.length c).ownBlock = some b → ¬ F b ∧ b ≠ sp ∧ b ≠ m ∧ Fc b
def CacheAt (W : World) (Fc : Nat → Prop) (g sp m n : Nat) (S : DS) (ss : List Sl) (chunk mode : Int) (op : Bool) : Prop := ∃ F A c, CacheIn W F Fc g sp m n S ss A c chunk mode op
theorem CacheIn.tight {W : World} {F Fc : Nat → Prop} {g sp m n : Nat} {S : DS} {ss : List Sl} {A : Option Addr} {c : Nat} {chunk mode : Int} {op : Bool} (h : CacheIn W F Fc g sp m n S ss A c chunk mode op) : CacheIn W (fun j => F j ∧ j < W.heap.size) Fc g sp m n S ss A c chunk mode op :=
  ⟨h.dsk.tight, fun j hj => h.inF j hj.1, h.span, fun hj => h.spF hj.1, h.spC, h.spm, fun hj => h.mF hj.1, h.mC, h.meta_, h.row, fun b hb => ⟨fun hj => (h.own b hb).1 hj.1, (h.own b hb).2⟩⟩
theorem CacheIn.fr {W W' : World} {F Fc G : Nat → Prop} {g sp m n : Nat} {S : DS} {ss : List Sl} {A : Option Addr} {c : Nat} {chunk mode : Int} {op : Bool} (h : CacheIn W F Fc g sp m n S ss A c chunk mode op) (hf : Fr G W W') (hn : ∀ j, Fc j → ¬ G j) : CacheIn W' F Fc g sp m n S ss A c chunk mode op :=
  ⟨h.dsk.fr hf (fun j hj => hn j (h.inF j hj)), h.inF, Cs.fr h.span hf (hn _ h.spC), h.spF, h.spC, h.spm, h.mF, h.mC, h.meta_.fr hf (hn _ h.mC), own_fr h.row hf (fun b hb => hn _ (h.own b hb).2.2.2), h.own⟩
theorem CacheAt.fr {W W' : World} {Fc G : Nat → Prop} {g sp m n : Nat} {S : DS} {ss : List Sl} {chunk mode : Int} {op : Bool} (h : CacheAt W Fc g sp m n S ss chunk mode op) (hf : Fr G W W') (hn : ∀ j, Fc j → ¬ G j) : CacheAt W' Fc g sp m n S ss chunk mode op := by
  obtain ⟨F, A, c, h⟩ := h
  exact ⟨F, A, c, h.fr hf hn⟩
theorem CacheAt.keep {W W' : World} {Fc : Nat → Prop} {g sp m n : Nat} {S : DS} {ss : List Sl} {chunk mode : Int} {op : Bool} (h : CacheAt W Fc g sp m n S ss chunk mode op) (hb : Below W.heap.size W W') : CacheAt W' Fc g sp m n S ss chunk mode op :=
  h.fr (G := fun _ => False) (Fr.of_below hb) (fun _ _ h => h)
theorem CacheIn.turn {W W' : World} {F F' Fc : Nat → Prop} {g sp m n : Nat} {S S' : DS} {ss : List Sl} {A : Option Addr} {c : Nat} {chunk mode : Int} {op : Bool} (h : CacheIn W F Fc g sp m n S ss A c chunk mode op) (hd : DskAt W' F' g S') (ht : Turn F F' W W') :
    CacheIn W' F' (fun j => Fc j ∨ F' j) g sp m n S' ss A c chunk mode op :=
  ⟨hd, fun j hj => .inr hj, Cs.fr h.span ht.1 h.spF, ht.out (Cs.lt h.span) h.spF, .inl h.spC, h.spm, ht.out h.meta_.lt h.mF, .inl h.mC, h.meta_.fr ht.1 h.mF, own_fr h.row ht.1 (fun b hb => (h.own b hb).1),
    fun b hb => ⟨ht.out (own_lt h.row b hb) (h.own b hb).1, (h.own b hb).2.1, (h.own b hb).2.2.1, .inl (h.own b hb).2.2.2⟩⟩
theorem turn_wide {W W' : World} {F F' Fc : Nat → Prop} (hF : ∀ j, F j → Fc j) (ht : Turn F F' W W') : Turn Fc (fun j => Fc j ∨ F' j) W W' :=
  ⟨ht.1.mono (fun j _ hj => hF j hj), fun j hj => hj.elim .inl (fun h => (ht.2 j h).elim (fun h' => .inl (hF j h')) .inr)⟩
theorem Turn.set {F F' : Nat → Prop} {W W' : World} (h : Turn F F' W W') {b i : Nat} (hb : F b ∨ W.heap.size ≤ b) (u : Value) : Turn F F' W (W'.setCell ⟨b, i, none⟩ u) := ⟨h.1.set hb u, h.2⟩
theorem CacheIn.drew {W : World} {F Fc : Nat → Prop} {g sp m n : Nat} {S : DS} {ss : List Sl} {A : Option Addr} {c : Nat} {chunk mode : Int} {op : Bool} (h : CacheIn W F Fc g sp m n S ss A c chunk mode op) : CacheIn W.drew F Fc g sp m n S ss A c chunk mode op :=
  h.fr (G := fun _ => False) (Fr.of_below (Below.refl _ W).drew) (fun _ _ h => h)
theorem Turn.drew {F F' : Nat → Prop} {W W' : World} (h : Turn F F' W W') : Turn F F' W W'.drew := ⟨h.1.drew, h.2⟩
def PutP (W : World) (Fc : Nat → Prop) (g sp m n : Nat) (S : DS) (ss : List Sl) (chunk mode : Int) (op : Bool) (k : Nat) (s : Sl) (e : Ending) (W' : World) : Prop :=
  e = .returned (.int .i64 (S.swE 2 n (1 + (k : Int)))) ∧ ∃ Fc', CacheAt W' Fc' g sp m n (S.swrite 2 n (1 + (k : Int)) s.word) (if S.swE 2 n (1 + (k : Int)) = 0 then ss.set k ⟨s.valid, s.dirty, s.block, 0⟩ else ss) chunk mode op ∧ Turn Fc Fc' W W'
theorem word_lt (s : Sl) : s.word < 18446744073709551616 := by
  unfold Sl.word
  split
  · exact slW_lt _ _ (mod_nat s.block 16777216 (by omega)) (b01_lt _)
  · omega
set_option maxRecDepth 100000 in
set_option maxHeartbeats 4000000 in
theorem mput_ok (W : World) (Fc : Nat → Prop) (g sp m n : Nat) (S : DS) (ss : List Sl) (chunk mode : Int) (op : Bool) (k : Nat) (s : Sl) (h : CacheAt W Fc g sp m n S ss chunk mode op) (hk : k < ss.length) (hl : ss.length ≤ 1024)
    (hr : 0 ≤ s.block ∧ s.block ≤ 16777215) (hv : s.valid = false → s.block = 0 ∧ s.dirty = false) (hn : n ≤ 65536) (hlog : S.log.length < 1000000) (hwr : S.wr ≤ 1000000) :
    Calls Tryz.prog 138 #[.pointer (some ⟨m, 0, none⟩), .int .i64 (k : Int), s.v] W (PutP W Fc g sp m n S ss chunk mode op k s) := by
  obtain ⟨F0, A, c, h0⟩ := h
  have h1 := h0.tight
  have HI := Lib.hid h1
  have hwl := word_lt s
  have hmw := mword_any s
  obtain ⟨v, d, b, st⟩ := s
  change 0 ≤ b ∧ b ≤ 16777215 at hr
  change v = false → b = 0 ∧ d = false at hv
  unfold Sl.v at hmw ⊢
  have q1 : ¬ (k : Int) < 0 := by omega
  have q2 : ¬ (ss.length : Int) ≤ (k : Int) := by omega
  have q3 : ¬ b < 0 := by omega
  have q4 : ¬ 16777215 < b := by omega
  have e1 : IntKind.i64.wrap (1 + (k : Int)) = 1 + (k : Int) := IntWalk.i64_in _ (by omega)
  obtain ⟨bR, cap, hA, -, hbR⟩ := h1.row.form (by omega)
  injection hA with hA2 _ hcap
  subst hA2
  subst hcap
  obtain ⟨N, hN⟩ : ∃ N, ss.length = N := ⟨_, rfl⟩
  have HN := Lib.hid hN
  have hb0 : Below W.heap.size W (W.alloc (.cells #[.bool v, .bool d, .int .i64 b, .int .i64 st] 31)) := (Below.refl _ W).alloc (Nat.le_refl _) _
  have hC0 := Cs.new W 31 #[.bool v, .bool d, .int .i64 b, .int .i64 st]
  have HX := Lib.hid (h1.fr (G := fun _ => False) (Fr.of_below hb0) (fun _ _ h => h))
  have x0 : (W.alloc (.cells #[.bool v, .bool d, .int .i64 b, .int .i64 st] 31)).cell? ⟨m, 0, none⟩ = some (.iface 176 (.pointer (some ⟨sp, 0, none⟩))) := HX.out.meta_.cell 0
  have x1 : (W.alloc (.cells #[.bool v, .bool d, .int .i64 b, .int .i64 st] 31)).cell? ⟨m, 1, none⟩ = some (.slice (some ⟨bR, 0, none⟩) N c) := by rw [← hN]; exact HX.out.meta_.cell 1
  have y0 : (W.alloc (.cells #[.bool v, .bool d, .int .i64 b, .int .i64 st] 31)).cell? ⟨W.heap.size, 0, none⟩ = some (.bool v) := hC0.cell 0
  have y1 : (W.alloc (.cells #[.bool v, .bool d, .int .i64 b, .int .i64 st] 31)).cell? ⟨W.heap.size, 1, none⟩ = some (.bool d) := hC0.cell 1
  have y2 : (W.alloc (.cells #[.bool v, .bool d, .int .i64 b, .int .i64 st] 31)).cell? ⟨W.heap.size, 2, none⟩ = some (.int .i64 b) := hC0.cell 2
  have y3 : (W.alloc (.cells #[.bool v, .bool d, .int .i64 b, .int .i64 st] 31)).cell? ⟨W.heap.size, 3, none⟩ = some (.int .i64 st) := hC0.cell 3
  rw [hN] at q2
  clear h0 h1 hN
  go_enter Tryz.func138, Tryz.ntmps138
  go_upto_region 3 with (fail)
  go_cut [40] (fun s40 wx => s40 = .bool false ∧ wx = W.alloc (.cells #[.bool v, .bool d, .int .i64 b, .int .i64 st] 31))
  case first =>
    cases v
    · obtain ⟨rfl, rfl⟩ := hv rfl
      go_wp2_with fail
      go_meet
      case rel => exact ⟨rfl, rfl⟩
    · go_wp2_with fail
      go_meet
      case rel => exact ⟨rfl, rfl⟩
  case rest =>
    obtain ⟨rfl, rfl⟩ := hcut
    generalize hW0 : (W.alloc (.cells #[.bool v, .bool d, .int .i64 b, .int .i64 st] 31)) = W0 at *
    have hs0 : W.heap.size < W0.heap.size := hC0.lt
    have hml := HX.out.meta_.lt
    have hsF : ¬ (F0 W.heap.size ∧ W.heap.size < W.heap.size) := fun hh => by omega
    go_upto_region 5 with (fail)
    have kk : W0.drew.cell? ⟨m, 0, none⟩ = some (.iface 176 (.pointer (some ⟨sp, 0, none⟩))) ∧ W0.drew.cell? ⟨W.heap.size, 0, none⟩ = some (.bool v) ∧ W0.drew.cell? ⟨W.heap.size, 1, none⟩ = some (.bool d) ∧ W0.drew.cell? ⟨W.heap.size, 2, none⟩ = some (.int .i64 b) ∧ W0.drew.cell? ⟨W.heap.size, 3, none⟩ = some (.int .i64 st) := ⟨x0, y0, y1, y2, y3⟩
    go_region_held3 (fun w' => w'.cell? ⟨m, 0, none⟩ = some (.iface 176 (.pointer (some ⟨sp, 0, none⟩))) ∧ w'.cell? ⟨W.heap.size, 0, none⟩ = some (.bool v) ∧ w'.cell? ⟨W.heap.size, 1, none⟩ = some (.bool d) ∧ w'.cell? ⟨W.heap.size, 2, none⟩ = some (.int .i64 b) ∧ w'.cell? ⟨W.heap.size, 3, none⟩ = some (.int .i64 st))
      (first | with_reducible exact kk | with_reducible exact z2 | with_reducible exact z1)
      (first
        | (go_at_call 146; refine (hmw _).mono ?_; rintro e w2 ⟨rfl, hb2⟩; have z1 : w2.cell? ⟨m, 0, none⟩ = some (.iface 176 (.pointer (some ⟨sp, 0, none⟩))) ∧ w2.cell? ⟨W.heap.size, 0, none⟩ = some (.bool v) ∧ w2.cell? ⟨W.heap.size, 1, none⟩ = some (.bool d) ∧ w2.cell? ⟨W.heap.size, 2, none⟩ = some (.int .i64 b) ∧ w2.cell? ⟨W.heap.size, 3, none⟩ = some (.int .i64 st) := ⟨(hb2.cell (p := ⟨m, 0, none⟩) hml).trans x0, (hb2.cell (p := ⟨W.heap.size, 0, none⟩) hs0).trans y0, (hb2.cell (p := ⟨W.heap.size, 1, none⟩) hs0).trans y1, (hb2.cell (p := ⟨W.heap.size, 2, none⟩) hs0).trans y2, (hb2.cell (p := ⟨W.heap.size, 3, none⟩) hs0).trans y3⟩; have HX2 := Lib.hid (HX.out.fr (G := fun _ => False) (Fr.of_below hb2).undrew (fun _ _ h => h)); have hs2 : W.heap.size < w2.heap.size := Nat.lt_of_lt_of_le hs0 hb2.size)
        | (go_at_call 192; refine (swrite_any w2 _ g sp 2 n S (1 + (k : Int)) _ HX2.out.dsk HX2.out.span HX2.out.spF hn hwl (Nat.le_of_lt hlog) (by omega)).mono ?_; rintro e w3 ⟨rfl, F3, hd3, ht3⟩; have z2 : w3.cell? ⟨m, 0, none⟩ = some (.iface 176 (.pointer (some ⟨sp, 0, none⟩))) ∧ w3.cell? ⟨W.heap.size, 0, none⟩ = some (.bool v) ∧ w3.cell? ⟨W.heap.size, 1, none⟩ = some (.bool d) ∧ w3.cell? ⟨W.heap.size, 2, none⟩ = some (.int .i64 b) ∧ w3.cell? ⟨W.heap.size, 3, none⟩ = some (.int .i64 st) := ⟨(ht3.1.cell HX2.out.meta_.lt HX2.out.mF).trans z1.1, (ht3.1.cell hs2 hsF).trans z1.2.1, (ht3.1.cell hs2 hsF).trans z1.2.2.1, (ht3.1.cell hs2 hsF).trans z1.2.2.2.1, (ht3.1.cell hs2 hsF).trans z1.2.2.2.2⟩))
    have HX3 := Lib.hid (HX2.out.turn hd3 ht3)
    have hT2 : Turn Fc Fc W w2 := Turn.of_below ((hb0.drew).trans (hb2.mono hb0.size))
    have HT3 := Lib.hid (hT2.trans (turn_wide HX2.out.inF ht3))
    have HC3 := Lib.hid ((Cs.below (w := W0.drew) hC0 hb2 hs0).fr ht3.1 hsF)
    have hQ : Hid (S.swE 2 n (1 + (k : Int)) = S.swE 2 n (1 + (k : Int))) := rfl
    have hs3F := ht3.out hs2 hsF
    clear kk x0 x1 y0 y1 y2 y3 z1 z2 hd3 ht3 hT2 hmw HX HX2 hC0
    by_cases hq : S.swE 2 n (1 + (k : Int)) = 0
    rotate_left
    · have hq2 : (S.swE 2 n (1 + (k : Int)) != 0) = true := by simpa using hq
      go_wp2_with fail
      go_ret
      exact ⟨rfl, _, by rw [if_neg hq]; exact ⟨_, _, _, HX3.out⟩, HT3.out⟩
    · have f3 := HC3.out.free 3
      have HC4 : Hid (Cs (w3.setCell ⟨W.heap.size, 3, none⟩ (.int .i64 0)) W.heap.size 31 #[.bool v, .bool d, .int .i64 b, .int .i64 0]) := heap_setCell_same w3 W.heap.size 3 _ _ (.int .i64 0) HC3.out
      have hne : ∀ j, Fc j → j < W.heap.size → ¬ j = W.heap.size := fun j _ h1 h2 => by omega
      have hRB := HX3.out.own bR rfl
      have hbo : ∀ b', (Value.slice (some ⟨bR, 0, none⟩) ss.length c).ownBlock = some b' → ¬ b' = W.heap.size := by
        intro b' hb'
        simp [Value.ownBlock] at hb'
        omega
      have hrow4 := own_fr HX3.out.row (fr_set w3 W.heap.size 3 (.int .i64 0)) hbo
      have x1 : (w3.setCell ⟨W.heap.size, 3, none⟩ (.int .i64 0)).cell? ⟨m, 1, none⟩ = some (.slice (some ⟨bR, 0, none⟩) N c) := by
        rw [← HN.out]
        exact (HX3.out.meta_.fr (fr_set w3 W.heap.size 3 (.int .i64 0)) (fun e => by have := HI.out.meta_.lt; omega)).cell 1
      have y0 : (w3.setCell ⟨W.heap.size, 3, none⟩ (.int .i64 0)).cell? ⟨W.heap.size, 0, none⟩ = some (.bool v) := HC4.out.cell 0
      have y1 : (w3.setCell ⟨W.heap.size, 3, none⟩ (.int .i64 0)).cell? ⟨W.heap.size, 1, none⟩ = some (.bool d) := HC4.out.cell 1
      have y2 : (w3.setCell ⟨W.heap.size, 3, none⟩ (.int .i64 0)).cell? ⟨W.heap.size, 2, none⟩ = some (.int .i64 b) := HC4.out.cell 2
      have y3 : (w3.setCell ⟨W.heap.size, 3, none⟩ (.int .i64 0)).cell? ⟨W.heap.size, 3, none⟩ = some (.int .i64 0) := HC4.out.cell 3
      have HT4 := Lib.hid (HT3.out.set (b := W.heap.size) (i := 3) (.inr (Nat.le_refl _)) (.int .i64 0))
      have HX4 := Lib.hid (HX3.out.meta_.fr (fr_set w3 W.heap.size 3 (.int .i64 0)) (fun e => by have := HI.out.meta_.lt; omega))
      have r0 := hrow4.frozenAt (k * 4)
      have r1 := hrow4.frozenAt (k * 4 + 1)
      have r2 := hrow4.frozenAt (k * 4 + 2)
      have r3 := hrow4.frozenAt (k * 4 + 3)
      obtain ⟨t0, t1, t2, t3⟩ := scs_at ss k ss[k] (List.getElem?_eq_getElem hk)
      have p0 := (hrow4.cellAt (k * 4) (by omega)).trans t0
      have p1 := (hrow4.cellAt (k * 4 + 1) (by omega)).trans t1
      have p2 := (hrow4.cellAt (k * 4 + 2) (by omega)).trans t2
      have p3 := (hrow4.cellAt (k * 4 + 3) (by omega)).trans t3
      clear t0 t1 t2 t3
      generalize ss[k] = old at *
      have HR4 := Lib.hid hrow4
      clear hrow4
      go_wp2_with fail
      go_region
      have hIo := (HI.out.own bR rfl).2.2.2
      have hspl : sp < W.heap.size := Cs.lt HI.out.span
      have hml0 : m < W.heap.size := HI.out.meta_.lt
      have hFr : Fr (fun j => j = W.heap.size ∨ j = bR) w3 (((((w3.setCell ⟨W.heap.size, 3, none⟩ (.int .i64 0)).setCell ⟨bR, k * 4, none⟩ (.bool v)).setCell ⟨bR, k * 4 + 1, none⟩ (.bool d)).setCell ⟨bR, k * 4 + 2, none⟩ (.int .i64 b)).setCell ⟨bR, k * 4 + 3, none⟩ (.int .i64 0)) :=
        (((((Fr.refl _ w3).set (.inl (.inl rfl)) _).set (.inl (.inr rfl)) _).set (.inl (.inr rfl)) _).set (.inl (.inr rfl)) _).set (.inl (.inr rfl)) _
      have hTF := (((HT4.out.set (b := bR) (i := k * 4) (.inl hIo) (.bool v)).set (b := bR) (i := k * 4 + 1) (.inl hIo) (.bool d)).set (b := bR) (i := k * 4 + 2) (.inl hIo) (.int .i64 b)).set (b := bR) (i := k * 4 + 3) (.inl hIo) (.int .i64 0)
      have hrF := ((((HR4.out.stored (k * 4) (.bool v)).1.stored (k * 4 + 1) (.bool d)).1.stored (k * 4 + 2) (.int .i64 b)).1.stored (k * 4 + 3) (.int .i64 0)).1
      have hset := scs_set ss k ⟨v, d, b, 0⟩ hk
      rw [← hset] at hrF
      have HFR := Lib.hid hFr
      have HTF := Lib.hid hTF
      have HRF := Lib.hid hrF
      clear hFr hTF hrF hset p0 p1 p2 p3 r0 r1 r2 r3 y0 y1 y2 y3 x1 HT4 HR4 HC4
      generalize (((((w3.setCell ⟨W.heap.size, 3, none⟩ (.int .i64 0)).setCell ⟨bR, k * 4, none⟩ (.bool v)).setCell ⟨bR, k * 4 + 1, none⟩ (.bool d)).setCell ⟨bR, k * 4 + 2, none⟩ (.int .i64 b)).setCell ⟨bR, k * 4 + 3, none⟩ (.int .i64 0)) = V at *
      go_wp2_with fail
      go_ret
      have hX := HX3.out
      have hsl : (ss.set k ⟨v, d, b, 0⟩).length = ss.length := List.length_set
      have hfin : CacheIn V F3 (fun j => Fc j ∨ F3 j) g sp m n (S.swrite 2 n (1 + (k : Int)) (Sl.mk v d b st).word) (ss.set k ⟨v, d, b, 0⟩) (some ⟨bR, 0, none⟩) c chunk mode op := by
        refine ⟨hX.dsk.fr HFR.out (fun j hj e => e.elim (fun e => hs3F (e ▸ hj)) (fun e => hRB.1 (e ▸ hj))), hX.inF, Cs.fr hX.span HFR.out (fun e => e.elim (fun e => by omega) (fun e => hRB.2.1 e.symm)), hX.spF, hX.spC, hX.spm, hX.mF, hX.mC, ?_, ?_, ?_⟩
        · rw [hsl]
          exact hX.meta_.fr HFR.out (fun e => e.elim (fun e => by omega) (fun e => hRB.2.2.1 e.symm))
        · rw [hsl]; exact HRF.out
        · rw [hsl]; exact hX.own
      exact ⟨by rw [hq]; rfl, _, by rw [if_pos hq]; exact ⟨F3, some ⟨bR, 0, none⟩, c, hfin.drew⟩, HTF.out.drew⟩
end Go.Proofs.YtogchafnnkajfaaGreat
namespace Go.Proofs.YtogchafnnkajfaaGreat
set_option linter.unusedVariables false
def nilS : Sl := ⟨false, false, 0, 0⟩
structure CS where
  sl : List Sl
  clk : Int
  ms : List Int
structure CS.Ok (s : CS) : Prop where
  len : 1 ≤ s.sl.length ∧ s.sl.length ≤ 1024
  clk : 0 ≤ s.clk ∧ s.clk ≤ 1099511627776
  msl : s.ms.length ≤ 8
  nl : ∀ x ∈ s.sl, x.valid = false → x = nilS
  blk : ∀ x ∈ s.sl, x.valid = true → (0 ≤ x.block ∧ x.block ≤ 16777215) ∧ 0 ≤ x.stamp ∧ x.stamp ≤ s.clk
  uq : ∀ (i j : Nat) (x y : Sl), s.sl[i]? = some x → s.sl[j]? = some y → x.valid = true → y.valid = true → x.block = y.block → i = j
  mb : ∀ b ∈ s.ms, 0 ≤ b ∧ b ≤ 16777215
  mn : s.ms.Nodup
  md : ∀ b ∈ s.ms, ∀ x ∈ s.sl, x.valid = true → x.block ≠ b
def idxOf (p : Sl → Bool) (l : List Sl) : Int := match l.findIdx? p with
  | some i => (i : Int)
  | none => -1
theorem idxOf_at (p : Sl → Bool) (l : List Sl) (i : Nat) (x : Sl) (hx : l[i]? = some x) (hp : p x = true) (hn : ∀ (j : Nat) (y : Sl), j < i → l[j]? = some y → p y = false) : idxOf p l = (i : Int) := by
  have hi := (List.getElem?_eq_some_iff.1 hx).1
  have : l.findIdx? p = some i := by
    rw [List.findIdx?_eq_some_iff_getElem]
    refine ⟨hi, by rw [(List.getElem?_eq_some_iff.1 hx).2]; exact hp, fun j hj => ?_⟩
    have := hn j _ hj (List.getElem?_eq_getElem (by omega))
    simp [this]
  unfold idxOf
  rw [this]
theorem idxOf_no (p : Sl → Bool) (l : List Sl) (hn : ∀ (j : Nat) (y : Sl), l[j]? = some y → p y = false) : idxOf p l = -1 := by
  have : l.findIdx? p = none := by
    rw [List.findIdx?_eq_none_iff]
    intro x hx
    obtain ⟨j, hj⟩ := List.mem_iff_getElem?.1 hx
    exact hn j x hj
  unfold idxOf
  rw [this]
theorem idxOf_cases (p : Sl → Bool) (l : List Sl) : (idxOf p l = -1 ∧ ∀ (j : Nat) (y : Sl), l[j]? = some y → p y = false) ∨ ∃ (i : Nat) (x : Sl), idxOf p l = (i : Int) ∧ l[i]? = some x ∧ p x = true ∧ ∀ (j : Nat) (y : Sl), j < i → l[j]? = some y → p y = false := by
  rcases h : l.findIdx? p with _ | i
  · left
    rw [List.findIdx?_eq_none_iff] at h
    refine ⟨by unfold idxOf; rw [List.findIdx?_eq_none_iff.2 h], fun j y hy => h y (List.mem_of_getElem? hy)⟩
  · right
    have h2 := List.findIdx?_eq_some_iff_getElem.1 h
    obtain ⟨hi, hp, hn⟩ := h2
    exact ⟨i, l[i], by unfold idxOf; rw [h], List.getElem?_eq_getElem hi, hp, fun j y hj hy => by
      have := hn j hj
      rw [(List.getElem?_eq_some_iff.1 hy).2] at this
      simpa using this⟩
def CS.find (s : CS) (b : Int) : Int := idxOf (fun x => x.valid && x.block == b) s.sl
def CS.at_ (s : CS) (k : Nat) : Sl := s.sl[k]?.getD nilS
def CS.touch (s : CS) (k : Nat) : CS := ⟨s.sl.set k { s.at_ k with stamp := s.clk + 1 }, s.clk + 1, s.ms⟩
def CS.miss (s : CS) (b : Int) : CS × Bool :=
  if b ∈ s.ms then (⟨s.sl, s.clk, s.ms.filter (· ≠ b)⟩, true)
  else (⟨s.sl, s.clk, if 8 < s.ms.length + 1 then (s.ms ++ [b]).drop 1 else s.ms ++ [b]⟩, false)
def leastTo (p : Sl → Bool) (l : List Sl) : Nat → Int
  | 0 => -1
  | n + 1 => match l[n]? with
    | none => leastTo p l n
    | some x => if p x = true ∧ (leastTo p l n < 0 ∨ x.stamp < (l[(leastTo p l n).toNat]?.getD nilS).stamp) then (n : Int) else leastTo p l n
def least (p : Sl → Bool) (l : List Sl) : Int := leastTo p l l.length
theorem leastTo_succ (p : Sl → Bool) (l : List Sl) (n : Nat) (x : Sl) (hx : l[n]? = some x) : leastTo p l (n + 1) = if p x = true ∧ (leastTo p l n < 0 ∨ x.stamp < (l[(leastTo p l n).toNat]?.getD nilS).stamp) then (n : Int) else leastTo p l n := by
  rw [leastTo, hx]
theorem leastTo_range (p : Sl → Bool) (l : List Sl) (n : Nat) (hn : n ≤ l.length) : leastTo p l n = -1 ∨ (0 ≤ leastTo p l n ∧ leastTo p l n < (n : Int)) := by
  induction n with
  | zero => exact .inl rfl
  | succ n ih =>
    rw [leastTo_succ p l n _ (List.getElem?_eq_getElem (by omega))]
    split
    · exact .inr ⟨by omega, by omega⟩
    · rcases ih (by omega) with h | h
      · exact .inl h
      · exact .inr ⟨h.1, by omega⟩
theorem leastTo_p (p : Sl → Bool) (l : List Sl) (n : Nat) (hn : n ≤ l.length) (h : 0 ≤ leastTo p l n) : p (l[(leastTo p l n).toNat]?.getD nilS) = true := by
  induction n with
  | zero => simp [leastTo] at h
  | succ n ih =>
    rw [leastTo_succ p l n _ (List.getElem?_eq_getElem (by omega))] at h ⊢
    split
    · rename_i hc
      rw [Int.toNat_natCast, List.getElem?_eq_getElem (by omega)]
      exact hc.1
    · rename_i hc
      rw [if_neg hc] at h
      exact ih (by omega) h
theorem leastTo_no (p : Sl → Bool) (l : List Sl) (n : Nat) (hn : n ≤ l.length) (h : leastTo p l n = -1) : ∀ (j : Nat) (x : Sl), j < n → l[j]? = some x → p x = false := by
  induction n with
  | zero => intro j x hj; omega
  | succ n ih =>
    rw [leastTo_succ p l n _ (List.getElem?_eq_getElem (by omega))] at h
    split at h
    · omega
    · rename_i hc
      intro j x hj hx
      by_cases e : j = n
      · subst e
        rw [List.getElem?_eq_getElem (by omega)] at hx
        injection hx with hx
        subst hx
        rcases hp : p l[j] with _ | _
        · rfl
        · exact absurd ⟨hp, .inl (by omega)⟩ hc
      · exact ih (by omega) h j x (by omega) hx
theorem leastTo_congr (p q : Sl → Bool) (l : List Sl) (n : Nat) (h : ∀ x ∈ l, p x = q x) : leastTo p l n = leastTo q l n := by
  induction n with
  | zero => rfl
  | succ n ih =>
    unfold leastTo
    rw [ih]
    rcases hx : l[n]? with _ | x
    · rfl
    · dsimp only
      rw [h x (List.mem_of_getElem? hx)]
def CS.victim (s : CS) : Int :=
  if 0 ≤ idxOf (fun x => !x.valid) s.sl then idxOf (fun x => !x.valid) s.sl
  else if 0 ≤ least (fun x => !x.dirty) s.sl then least (fun x => !x.dirty) s.sl else least (fun _ => true) s.sl
def CS.place (s : CS) (k : Nat) (b : Int) : CS := ⟨s.sl.set k ⟨true, false, b, s.clk + 1⟩, s.clk + 1, s.ms.filter (· ≠ b)⟩
def CS.oldest (s : CS) : Int := least (fun x => x.dirty) s.sl
def CS.clear (s : CS) (k : Nat) : CS := ⟨s.sl.set k nilS, s.clk, s.ms⟩
def CS.setD (s : CS) (k : Nat) (d : Bool) : CS := ⟨s.sl.set k { s.at_ k with dirty := d }, s.clk, s.ms⟩
theorem CS.at_eq {s : CS} {k : Nat} {x : Sl} (h : s.sl[k]? = some x) : s.at_ k = x := by
  unfold CS.at_
  rw [h]; rfl
theorem set_get {l : List Sl} {k j : Nat} {y x : Sl} (h : (l.set k y)[j]? = some x) : (j = k ∧ x = y) ∨ (j ≠ k ∧ l[j]? = some x) := by
  by_cases e : j = k
  · subst e
    have hl : j < l.length := by simpa using (List.getElem?_eq_some_iff.1 h).1
    rw [List.getElem?_set_self hl] at h
    injection h with h
    exact .inl ⟨rfl, h.symm⟩
  · rw [List.getElem?_set_ne (fun e' => e e'.symm)] at h
    exact .inr ⟨e, h⟩
theorem CS.Ok.set {s : CS} (h : s.Ok) (k : Nat) (y : Sl) (clk' : Int) (ms' : List Int) (hc : s.clk ≤ clk' ∧ clk' ≤ 1099511627776) (hnl : y.valid = false → y = nilS)
    (hb : y.valid = true → (0 ≤ y.block ∧ y.block ≤ 16777215) ∧ 0 ≤ y.stamp ∧ y.stamp ≤ clk') (hu : y.valid = true → ∀ j x, j ≠ k → s.sl[j]? = some x → x.valid = true → x.block ≠ y.block)
    (hm : ∀ b ∈ ms', b ∈ s.ms ∧ (y.valid = true → b ≠ y.block)) (hml : ms'.length ≤ 8) (hmn : ms'.Nodup) : CS.Ok ⟨s.sl.set k y, clk', ms'⟩ := by
  have hg : ∀ x ∈ s.sl.set k y, x = y ∨ x ∈ s.sl := fun x hx => (List.mem_or_eq_of_mem_set hx).elim .inr .inl
  refine ⟨by rw [List.length_set]; exact h.len, ⟨by have := h.clk; show 0 ≤ clk'; omega, hc.2⟩, hml, ?_, ?_, ?_, fun b hb' => h.mb b (hm b hb').1, hmn, ?_⟩
  · intro x hx hv
    rcases hg x hx with rfl | hx
    · exact hnl hv
    · exact h.nl x hx hv
  · intro x hx hv
    rcases hg x hx with rfl | hx
    · exact hb hv
    · have := h.blk x hx hv
      exact ⟨this.1, this.2.1, by show x.stamp ≤ clk'; omega⟩
  · intro i j x z hi hj hvx hvz he
    rcases set_get (show (s.sl.set k y)[i]? = some x from hi) with ⟨e1, e2⟩ | ⟨hik, hi1⟩
    · rcases set_get (show (s.sl.set k y)[j]? = some z from hj) with ⟨e3, e4⟩ | ⟨hjk, hj1⟩
      · omega
      · subst e2; exact absurd he.symm (hu hvx j z hjk hj1 hvz)
    · rcases set_get (show (s.sl.set k y)[j]? = some z from hj) with ⟨e3, e4⟩ | ⟨hjk, hj1⟩
      · subst e4; exact absurd he (hu hvz i x hik hi1 hvx)
      · exact h.uq i j x z hi1 hj1 hvx hvz he
  · intro b hb' x hx hv
    rcases hg x hx with rfl | hx
    · exact fun e => (hm b hb').2 hv e.symm
    · exact h.md b (hm b hb').1 x hx hv
theorem CS.Ok.touch {s : CS} (h : s.Ok) (k : Nat) (x : Sl) (hx : s.sl[k]? = some x) (hv : x.valid = true) (hc : s.clk < 1099511627776) : (s.touch k).Ok := by
  unfold CS.touch
  rw [CS.at_eq hx]
  have hb := h.blk x (List.mem_of_getElem? hx) hv
  have hk := h.clk
  refine h.set k _ _ _ ⟨by omega, by omega⟩ (fun e => by simp [hv] at e) (fun _ => ⟨hb.1, by dsimp only; omega, by dsimp only; omega⟩) (fun _ j z hj hz hvz e => hj (h.uq j k z x hz hx hvz hv e)) (fun b hb' => ⟨hb', fun _ e => h.md b hb' x (List.mem_of_getElem? hx) hv e.symm⟩) h.msl h.mn
theorem CS.Ok.miss {s : CS} (h : s.Ok) (b : Int) (hb : 0 ≤ b ∧ b ≤ 16777215) (hn : s.find b = -1) : (s.miss b).1.Ok := by
  unfold CS.miss
  have hno : ∀ x ∈ s.sl, x.valid = true → x.block ≠ b := by
    intro x hx hv e
    obtain ⟨j, hj⟩ := List.mem_iff_getElem?.1 hx
    rcases idxOf_cases (fun x => x.valid && x.block == b) s.sl with ⟨-, h2⟩ | ⟨i, y, h2, _⟩
    · have := h2 j x hj
      simp [hv, e] at this
    · have : s.find b = (i : Int) := h2
      omega
  split
  · refine ⟨h.len, h.clk, Nat.le_trans (List.length_filter_le _ _) h.msl, h.nl, h.blk, h.uq, fun c hc => h.mb c ((List.mem_filter.1 hc).1), h.mn.filter _, fun c hc => h.md c ((List.mem_filter.1 hc).1)⟩
  · rename_i hm
    have hn2 : (s.ms ++ [b]).Nodup := by
      rw [List.nodup_append]
      refine ⟨h.mn, by simp, fun a ha c hc => ?_⟩
      rw [List.mem_singleton] at hc
      subst hc
      exact fun e => hm (e ▸ ha)
    have hmem : ∀ c ∈ s.ms ++ [b], (0 ≤ c ∧ c ≤ 16777215) ∧ ∀ x ∈ s.sl, x.valid = true → x.block ≠ c := by
      intro c hc
      rcases List.mem_append.1 hc with hc | hc
      · exact ⟨h.mb c hc, h.md c hc⟩
      · rw [List.mem_singleton] at hc
        subst hc
        exact ⟨hb, hno⟩
    have hml := h.msl
    dsimp only
    split
    · refine ⟨h.len, h.clk, by show ((s.ms ++ [b]).drop 1).length ≤ 8; simp; omega, h.nl, h.blk, h.uq, fun c hc => (hmem c (List.mem_of_mem_drop hc)).1, hn2.drop, fun c hc => (hmem c (List.mem_of_mem_drop hc)).2⟩
    · refine ⟨h.len, h.clk, by show (s.ms ++ [b]).length ≤ 8; simp; omega, h.nl, h.blk, h.uq, fun c hc => (hmem c hc).1, hn2, fun c hc => (hmem c hc).2⟩
theorem CS.Ok.place {s : CS} (h : s.Ok) (k : Nat) (b : Int) (hb : 0 ≤ b ∧ b ≤ 16777215) (hn : s.find b = -1) (hc : s.clk < 1099511627776) : (s.place k b).Ok := by
  have hno : ∀ (j : Nat) (x : Sl), s.sl[j]? = some x → x.valid = true → x.block ≠ b := by
    intro j x hj hv e
    rcases idxOf_cases (fun x => x.valid && x.block == b) s.sl with ⟨-, h2⟩ | ⟨i, y, h2, _⟩
    · have := h2 j x hj
      simp [hv, e] at this
    · have : s.find b = (i : Int) := h2
      omega
  have hk := h.clk
  unfold CS.place
  exact h.set k _ _ _ ⟨by omega, by omega⟩ (fun e => by cases e) (fun _ => ⟨hb, by dsimp only; omega, by dsimp only; omega⟩) (fun _ j x hj hx hv => hno j x hx hv) (fun c hc => ⟨(List.mem_filter.1 hc).1, fun _ => by have := (List.mem_filter.1 hc).2; simpa using this⟩) (Nat.le_trans (List.length_filter_le _ _) h.msl) (h.mn.filter _)
theorem CS.Ok.clear {s : CS} (h : s.Ok) (k : Nat) : (s.clear k).Ok := by
  unfold CS.clear
  exact h.set k nilS s.clk s.ms ⟨Int.le_refl _, h.clk.2⟩ (fun _ => rfl) (fun e => by cases e) (fun e => by cases e) (fun b hb => ⟨hb, fun e => by cases e⟩) h.msl h.mn
theorem CS.Ok.setD {s : CS} (h : s.Ok) (k : Nat) (x : Sl) (hx : s.sl[k]? = some x) (hv : x.valid = true) (d : Bool) : (s.setD k d).Ok := by
  unfold CS.setD
  rw [CS.at_eq hx]
  have hb := h.blk x (List.mem_of_getElem? hx) hv
  refine h.set k _ s.clk s.ms ⟨Int.le_refl _, h.clk.2⟩ (fun e => by simp [hv] at e) (fun _ => hb) (fun _ j z hj hz hvz e => hj (h.uq j k z x hz hx hvz hv e)) (fun b hb' => ⟨hb', fun _ e => h.md b hb' x (List.mem_of_getElem? hx) hv e.symm⟩) h.msl h.mn
end Go.Proofs.YtogchafnnkajfaaGreat
namespace Go.Proofs.YtogchafnnkajfaaGreat
set_option linter.unusedVariables false
open Go.RowKit
attribute [local go_sem] Oper.semAt_some
def csV (A : Option Addr) (n c : Nat) (clk : Int) (B : Option Addr) (m d : Nat) : Value := .agg #[.slice A n c, .int .i64 clk, .slice B m d]
theorem scs_read {w : World} {A : Option Addr} {l : List Sl} (h : Reads w A (scs l)) (hl : l.length ≠ 0) : ∃ b o, A = some ⟨b, o, none⟩ ∧ b < w.heap.size ∧ ∀ i x, l[i]? = some x → w.cell? ⟨b, o + i * 4, none⟩ = some (.bool x.valid) ∧ w.cell? ⟨b, o + i * 4 + 1, none⟩ = some (.bool x.dirty) ∧ w.cell? ⟨b, o + i * 4 + 2, none⟩ = some (.int .i64 x.block) ∧ w.cell? ⟨b, o + i * 4 + 3, none⟩ = some (.int .i64 x.stamp) := by
  obtain ⟨b, o, e, hb, hc⟩ := h (by rw [scs_length]; omega)
  refine ⟨b, o, e, hb, fun i x hx => ?_⟩
  obtain ⟨a0, a1, a2, a3⟩ := scs_at l i x hx
  exact ⟨hc _ _ a0, hc _ _ a1, hc _ _ a2, hc _ _ a3⟩
def vbl (l : List Sl) (k : Nat) : List Int := ((l.take k).filter (fun x => x.valid)).map (fun x => x.block)
theorem vbl_zero (l : List Sl) : vbl l 0 = [] := by simp [vbl]
theorem vbl_succ (l : List Sl) (k : Nat) (x : Sl) (h : l[k]? = some x) : vbl l (k + 1) = if x.valid = true then vbl l k ++ [x.block] else vbl l k := by
  unfold vbl
  rw [List.take_add_one, h]
  cases hv : x.valid <;> simp [hv]
theorem vbl_mem {l : List Sl} {k : Nat} {b : Int} (h : b ∈ vbl l k) : ∃ j x, j < k ∧ l[j]? = some x ∧ x.valid = true ∧ x.block = b := by
  unfold vbl at h
  obtain ⟨x, hx, rfl⟩ := List.mem_map.1 h
  obtain ⟨hx, hv⟩ := List.mem_filter.1 hx
  obtain ⟨j, hj⟩ := List.mem_iff_getElem?.1 hx
  have hjk : j < k := by
    have := (List.getElem?_eq_some_iff.1 hj).1
    simp at this; omega
  rw [List.getElem?_take_of_lt hjk] at hj
  exact ⟨j, x, hjk, hj, hv, rfl⟩
theorem CS.Ok.new {s : CS} (h : s.Ok) (k : Nat) (x : Sl) (hx : s.sl[k]? = some x) (hv : x.valid = true) : ¬ x.block ∈ vbl s.sl k := by
  intro hm
  obtain ⟨j, y, hj, hy, hvy, he⟩ := vbl_mem hm
  have := h.uq j k y x hy hx hvy hv he
  omega
theorem CS.Ok.newm {s : CS} (h : s.Ok) (k : Nat) (b : Int) (hb : s.ms[k]? = some b) : ¬ b ∈ vbl s.sl s.sl.length ++ s.ms.take k := by
  intro hm
  rcases List.mem_append.1 hm with hm | hm
  · obtain ⟨j, y, hj, hy, hvy, he⟩ := vbl_mem hm
    exact h.md b (List.mem_of_getElem? hb) y (List.mem_of_getElem? hy) hvy he
  · have hkl : k < s.ms.length := (List.getElem?_eq_some_iff.1 hb).1
    have hn := h.mn
    have e : s.ms = s.ms.take k ++ b :: s.ms.drop (k + 1) := by
      rw [← (List.getElem?_eq_some_iff.1 hb).2, List.getElem_cons_drop, List.take_append_drop]
    rw [e, List.nodup_append] at hn
    exact hn.2.2 b hm b (by simp) rfl
theorem slot_neq_nil : ∀ w : World, (binOp .neq 31 (.agg #[.bool false, .bool false, .int .i64 0, .int .i64 0]) (.agg #[.bool false, .bool false, .int .i64 0, .int .i64 0])).run Tryz.prog w = .ok (.bool false) w := fun w => by kernel_rfl
set_option maxRecDepth 100000 in
set_option maxHeartbeats 8000000 in
theorem cvalid_any (W : World) (A B : Option Addr) (n c m d : Nat) (s : CS) (h : s.Ok) (hn : s.sl.length = n) (hm : s.ms.length = m) (hA : Reads W A (scs s.sl)) (hB : Reads W B (iv s.ms)) :
    Calls Tryz.prog 124 #[csV A n c s.clk B m d] W fun e w' => e = .returned (.int .i64 0) ∧ Below W.heap.size W w' := by
  have HO := Lib.hid h
  have HN := Lib.hid hn
  have HM := Lib.hid hm
  have HA := Lib.hid hA
  have HB := Lib.hid hB
  have hl := h.len
  have hc := h.clk
  have hml := h.msl
  rw [hn] at hl
  rw [hm] at hml
  obtain ⟨clk, hclk⟩ : ∃ clk, s.clk = clk := ⟨_, rfl⟩
  have HK := Lib.hid hclk
  rw [hclk] at hc ⊢
  clear h hn hm hA hB hclk
  have t1 : ¬ (n : Int) < 1 := by omega
  have t2 : ¬ (1024 : Int) < (n : Int) := by omega
  have t3 : ¬ clk < 0 := by omega
  have t4 : ¬ (1099511627776 : Int) < clk := by omega
  have t5 : ¬ (8 : Int) < (m : Int) := by omega
  have d1 : decide ((n : Int) < 1) = false := by simpa using t1
  have d2 : decide ((1024 : Int) < (n : Int)) = false := by simpa using t2
  have d3 : decide (clk < 0) = false := by simpa using t3
  have d4 : decide ((1099511627776 : Int) < clk) = false := by simpa using t4
  have d5 : decide ((8 : Int) < (m : Int)) = false := by simpa using t5
  have hmm := @run_makeMap Tryz.prog
  unfold csV
  go_enter Tryz.func124, Tryz.ntmps124
  go_wp2_with fail
  have hP := Cs.new W 58 #[.slice A n c, .int .i64 clk, .slice B m d]
  have hb1 : Below W.heap.size W (W.alloc (.cells #[.slice A n c, .int .i64 clk, .slice B m d] 58)) := (Below.refl _ W).alloc (Nat.le_refl _) _
  have hs1 : (W.alloc (.cells #[.slice A n c, .int .i64 clk, .slice B m d] 58)).heap.size = W.heap.size + 1 := by simp
  generalize W.alloc (.cells #[.slice A n c, .int .i64 clk, .slice B m d] 58) = W1 at *
  have HP := Lib.hid hP
  have HB1 := Lib.hid hb1
  have HS1 := Lib.hid hs1
  clear hP hb1 hs1
  go_loopw [38] (fun z wr => ∃ i q : Nat, z = .int .i64 i ∧ i ≤ n ∧ q ≤ i ∧ Seen wr (W.heap.size + 1) q (vbl s.sl i) ∧ Below (W.heap.size + 1) W1 wr) (fun z _ => n - (intOf z).toNat)
  case atStart => exact ⟨0, 0, rfl, Nat.zero_le _, Nat.le_refl _, by rw [vbl_zero, ← HS1.out]; exact Seen.made W1, (Below.refl _ W1).alloc (Nat.le_of_eq HS1.out.symm) _⟩
  case round =>
    obtain ⟨i, q, rfl, hi, hq, hsn, hbw⟩ := hrel
    have hBW : Below W.heap.size W wr := HB1.out.trans (hbw.mono (by omega))
    have HSN := Lib.hid hsn
    have HBW := Lib.hid hbw
    have HB0 := Lib.hid hBW
    have hPw := Cs.below HP.out hbw (by omega)
    have p0 := hPw.cell 0
    have p1 := hPw.cell 1
    have p2 := hPw.cell 2
    clear hsn hbw hPw hBW
    by_cases hlt : i < n
    · obtain ⟨x, hx⟩ : ∃ x, s.sl[i]? = some x := ⟨_, List.getElem?_eq_getElem (by rw [HN.out]; exact hlt)⟩
      have u1 : (i : Int) < (n : Int) := by omega
      obtain ⟨b, o, rfl, hbl, hcs⟩ := scs_read (HA.out.keep HB0.out) (by rw [HN.out]; omega)
      obtain ⟨c0, c1, c2, c3⟩ := hcs i x hx
      have HX := Lib.hid hx
      clear hcs hx
      go_upto_region 7 with (fail)
      have hC := Cs.new wr 31 #[.bool x.valid, .bool x.dirty, .int .i64 x.block, .int .i64 x.stamp]
      have hbV : Below wr.heap.size wr (wr.alloc (.cells #[.bool x.valid, .bool x.dirty, .int .i64 x.block, .int .i64 x.stamp] 31)) := (Below.refl _ wr).alloc (Nat.le_refl _) _
      have hw1 : W1.heap.size ≤ wr.heap.size := HBW.out.size
      have hP2 : Cs (wr.alloc (.cells #[.bool x.valid, .bool x.dirty, .int .i64 x.block, .int .i64 x.stamp] 31)) W.heap.size 58 _ := (HP.out.below HBW.out (by omega)).below hbV (by have := HS1.out; omega)
      have hS2 := HSN.out.fr (G := fun _ => False) (Fr.of_below hbV) (fun h => h)
      have hB2 : Below (W.heap.size + 1) W1 (wr.alloc (.cells #[.bool x.valid, .bool x.dirty, .int .i64 x.block, .int .i64 x.stamp] 31)) := HBW.out.trans (hbV.mono (by have := HS1.out; omega))
      have hsr : W.heap.size + 1 ≤ wr.heap.size := by have := HS1.out; omega
      clear p0 p1 p2 c0 c1 c2 c3 hbV
      generalize wr.alloc (.cells #[.bool x.valid, .bool x.dirty, .int .i64 x.block, .int .i64 x.stamp] 31) = V at *
      have HCV := Lib.hid hC
      have HS2 := Lib.hid hS2
      have HB2 := Lib.hid hB2
      have p1 := hP2.cell 1
      have p0 := hP2.cell 0
      have p2 := hP2.cell 2
      clear hP2 hS2 hB2 HSN HBW HB0
      have e1 : IntKind.i64.wrap ((i : Int) + 1) = ((i + 1 : Nat) : Int) := by rw [IntWalk.i64_in _ (by omega)]; rfl
      have HOX := Lib.hid (HO.out.blk x (List.mem_of_getElem? HX.out))
      have HNX := Lib.hid (HO.out.nl x (List.mem_of_getElem? HX.out))
      have HUX := Lib.hid (HO.out.new i x HX.out)
      have HSU := Lib.hid (vbl_succ s.sl i x HX.out)
      obtain ⟨xv, xd, xb, xs⟩ := x
      dsimp only at hC
      have k0 : V.cell? ⟨wr.heap.size, 0, none⟩ = some (.bool xv) := hC.cell 0
      have k1 : V.cell? ⟨wr.heap.size, 1, none⟩ = some (.bool xd) := hC.cell 1
      have k2 : V.cell? ⟨wr.heap.size, 2, none⟩ = some (.int .i64 xb) := hC.cell 2
      have k3 : V.cell? ⟨wr.heap.size, 3, none⟩ = some (.int .i64 xs) := hC.cell 3
      clear hC
      cases xv
      · have hnx := HNX.out rfl
        injection hnx with _ a1 a2 a3
        subst a1; subst a2; subst a3
        have hne := slot_neq_nil V
        go_wp2_with fail
        go_roundw
        case rel => exact ⟨i + 1, q, by go_num, by omega, by omega, by rw [HSU.out, if_neg (by simp)]; exact HS2.out, HB2.out⟩
        case measure => simp [intOf]; omega
      · obtain ⟨⟨b1, b2⟩, b3, b4⟩ := HOX.out rfl
        have hb4 : xs ≤ clk := by rw [← HK.out]; exact b4
        clear b4
        dsimp only at b1 b2 b3
        have v1 : ¬ xb < 0 := by omega
        have v2 : ¬ (16777215 : Int) < xb := by omega
        have v3 : ¬ xs < 0 := by omega
        have v4 : ¬ clk < xs := by omega
        have w1 : decide (xb < 0) = false := by simpa using v1
        have w2 : decide ((16777215 : Int) < xb) = false := by simpa using v2
        have w3 : decide (xs < 0) = false := by simpa using v3
        have w4 : decide (clk < xs) = false := by simpa using v4
        have hlk := HS2.out.look xb (by omega)
        have hmem : decide (xb ∈ vbl s.sl i) = false := by simpa using HUX.out rfl
        rw [hmem] at hlk
        obtain ⟨V2, hrun, hsn2, hg2⟩ := HS2.out.store (by simp only [maxLen]; omega) xb (by omega)
        have HS3 := Lib.hid hsn2
        have HB3 := Lib.hid (gb_Below HB2.out hg2 (by have := HB2.out.size; have := HS1.out; omega) (Nat.le_refl _))
        clear hmem hsn2 hg2 b1 b2 b3 hb4
        go_wp2_with fail
        go_roundw
        case rel => exact ⟨i + 1, q + 1, by go_num, by omega, by omega, by rw [HSU.out, if_pos rfl]; exact HS3.out, HB3.out⟩
        case measure => simp [intOf]; omega
    · have hin : i = n := by omega
      subst hin
      go_wp2_with fail
      go_loopw [86] (fun z wx => ∃ j q : Nat, z = .int .i64 j ∧ j ≤ m ∧ q ≤ i + j ∧ Seen wx (W.heap.size + 1) q (vbl s.sl i ++ s.ms.take j) ∧ Below (W.heap.size + 1) W1 wx) (fun z _ => m - (intOf z).toNat)
      case atStart => exact ⟨0, q, rfl, Nat.zero_le _, by omega, by rw [List.take_zero, List.append_nil]; exact HSN.out, HBW.out⟩
      case round =>
        clear HSN HBW HB0 p0 p1 p2
        rename World => wx
        obtain ⟨j, q2, rfl, hj, hq2, hsn, hbw⟩ := hrel
        have hBW : Below W.heap.size W wx := HB1.out.trans (hbw.mono (by omega))
        have HSN := Lib.hid hsn
        have HBW := Lib.hid hbw
        have HB0 := Lib.hid hBW
        have hPw := Cs.below HP.out hbw (by omega)
        have p2 := hPw.cell 2
        clear hsn hbw hPw hBW
        by_cases hlt : j < m
        · obtain ⟨x, hx⟩ : ∃ x, s.ms[j]? = some x := ⟨_, List.getElem?_eq_getElem (by rw [HM.out]; exact hlt)⟩
          have u1 : (j : Int) < (m : Int) := by omega
          obtain ⟨b, o, rfl, hbl, hcs⟩ := (HB.out.keep HB0.out).i (by rw [HM.out]; omega)
          have c0 := hcs j (by rw [HM.out]; exact hlt)
          rw [hx, Option.getD_some] at c0
          have HX := Lib.hid hx
          obtain ⟨b1, b2⟩ := HO.out.mb x (List.mem_of_getElem? hx)
          have hnm := HO.out.newm j x hx
          rw [HN.out] at hnm
          have e1 : IntKind.i64.wrap ((j : Int) + 1) = ((j + 1 : Nat) : Int) := by rw [IntWalk.i64_in _ (by omega)]; rfl
          have v1 : ¬ x < 0 := by omega
          have v2 : ¬ (16777215 : Int) < x := by omega
          have w1 : decide (x < 0) = false := by simpa using v1
          have w2 : decide ((16777215 : Int) < x) = false := by simpa using v2
          have hlk := HSN.out.look x (by omega)
          have hmem : decide (x ∈ vbl s.sl i ++ s.ms.take j) = false := by simpa using hnm
          rw [hmem] at hlk
          obtain ⟨V2, hrun, hsn2, hg2⟩ := HSN.out.store (by simp only [maxLen]; omega) x (by omega)
          have hsz := HBW.out.size
          have HS3 : Hid (Seen V2 (W.heap.size + 1) (q2 + 1) (vbl s.sl i ++ s.ms.take (j + 1))) := by
            show Seen _ _ _ _
            rw [List.take_add_one, HX.out, ← List.append_assoc]
            exact hsn2
          have HB3 := Lib.hid (gb_Below HBW.out hg2 (by have := HS1.out; omega) (Nat.le_refl _))
          clear hmem hsn2 hg2 b1 b2 hnm hcs hx
          go_wp2_with fail
          go_roundw
          case rel => exact ⟨j + 1, q2 + 1, by go_num, by omega, by omega, HS3.out, HB3.out⟩
          case measure => simp [intOf]; omega
        · have hjm : j = m := by omega
          subst hjm
          go_wp2_with fail
          go_ret
          exact ⟨rfl, HB0.out⟩
end Go.Proofs.YtogchafnnkajfaaGreat
namespace Go.Proofs.YtogchafnnkajfaaGreat
set_option linter.unusedVariables false
open Go.RowKit
section
variable {P : Program} {ops : Array Oper} {S : World → Prop} {Q : Act → Prop}
def wpCls (P : Program) (ops : Array Oper) (S : World → Prop) (Q : Act → Prop) : List Oper → Act → Prop
  | [], a => Q a
  | o :: l, a => ∃ v, ((Region.wanted o (yielded ops a.tmps) = true ∧ ((∀ w, S w → (execOp a.eval o).run P w = .ok (.value v) w) ∨ ∃ f args, ∀ w, S w → (execOp a.eval o).run P w = .ok (.enter f args) w ∧ Calls P f args w (fun e w'' => e = .returned v ∧ S w''))) ∨ (Region.wanted o (yielded ops a.tmps) = false ∧ v = undef)) ∧ wpCls P ops S Q l (a.put o.dst v)
theorem wpQuiet_of_cls : ∀ (l : List Oper) (a : Act), wpCls P ops S Q l a → wpQuiet P ops S Q l a
  | [], _, h => h
  | o :: l, a, h => by
    unfold wpCls at h
    unfold wpQuiet
    obtain ⟨v, h1, h2⟩ := h
    have h2 := wpQuiet_of_cls l _ h2
    rcases h1 with ⟨hw, h1⟩ | ⟨hw, rfl⟩
    · rw [if_pos hw]
      refine ⟨v, fun w hS => ?_, h2⟩
      unfold Oper.quietAt
      rcases h1 with h1 | ⟨f, args, h1⟩
      · rw [h1 w hS]
        exact ⟨rfl, rfl⟩
      · rw [(h1 w hS).1]
        exact ⟨rfl, (h1 w hS).2⟩
    · rw [if_neg (by rw [hw]; exact Bool.false_ne_true)]
      exact h2
theorem wp_region_cls {id : Nat} {R : Exit → Act → World → Prop} {a : Act} {w : World} {l : List Oper} (hm : P.follows .mixedOrders = true) (hB : Region.lexB .any l.toArray = true) (S : World → Prop) (hS : S w.drew)
    (h : wpCls P l.toArray S (fun a' => ∀ w', S w' → R .normal a' w') l a) : (Code.region id l.toArray true).wp P R a w :=
  wp_region_quiet (C := S) hm hB hS (by simpa using wpQuiet_of_cls l a h)
end
end Go.Proofs.YtogchafnnkajfaaGreat
namespace Go.Proofs.YtogchafnnkajfaaGreat
set_option linter.unusedVariables false
open Go.RowKit
attribute [local go_sem] Oper.semAt_some
theorem sl_put {l : List Sl} {i : Nat} (h : i < l.length) : ∃ x, l[i]? = some x := ⟨_, List.getElem?_eq_getElem h⟩
set_option maxHeartbeats 1000000 in
theorem find1_any (W : World) (x : Sl) (bb : Nat) (b : Int) (hb : W.cell? ⟨bb, 0, none⟩ = some (.int .i64 b)) (hbl : bb < W.heap.size) :
    Calls Tryz.prog 149 #[x.v, .pointer (some ⟨bb, 0, none⟩)] W fun e w' => e = .returned (.bool (x.valid && x.block == b)) ∧ Below W.heap.size W w' := by
  obtain ⟨xv, xd, xb, xs⟩ := x
  unfold Sl.v
  have hB : Below W.heap.size W (W.alloc (.cells #[.bool xv, .bool xd, .int .i64 xb, .int .i64 xs] 31)) := (Below.refl _ W).alloc (Nat.le_refl _) _
  have h2 := (hB.cell (p := ⟨bb, 0, none⟩) hbl).trans hb
  cases xv
  · go_enter Tryz.func149, Tryz.ntmps149
    go_wp2_with fail
    go_ret
    exact ⟨rfl, hB⟩
  · go_enter Tryz.func149, Tryz.ntmps149
    go_wp2_with fail
    go_ret
    exact ⟨by simp, hB⟩
set_option maxHeartbeats 1000000 in
theorem victim1_any (W : World) (x : Sl) :
    Calls Tryz.prog 150 #[x.v] W fun e w' => e = .returned (.bool (!x.valid)) ∧ Below W.heap.size W w' := by
  obtain ⟨xv, xd, xb, xs⟩ := x
  unfold Sl.v
  have hB : Below W.heap.size W (W.alloc (.cells #[.bool xv, .bool xd, .int .i64 xb, .int .i64 xs] 31)) := (Below.refl _ W).alloc (Nat.le_refl _) _
  go_enter Tryz.func150, Tryz.ntmps150
  go_wp2_with fail
  go_ret
  exact ⟨by simp, hB⟩
set_option maxHeartbeats 1000000 in
theorem victim2_any (W : World) (x : Sl) :
    Calls Tryz.prog 151 #[x.v] W fun e w' => e = .returned (.bool (!x.dirty)) ∧ Below W.heap.size W w' := by
  obtain ⟨xv, xd, xb, xs⟩ := x
  unfold Sl.v
  have hB : Below W.heap.size W (W.alloc (.cells #[.bool xv, .bool xd, .int .i64 xb, .int .i64 xs] 31)) := (Below.refl _ W).alloc (Nat.le_refl _) _
  go_enter Tryz.func151, Tryz.ntmps151
  go_wp2_with fail
  go_ret
  exact ⟨by simp, hB⟩
set_option maxHeartbeats 1000000 in
theorem victim3_any (W : World) (x : Sl) :
    Calls Tryz.prog 152 #[x.v] W fun e w' => e = .returned (.bool (true)) ∧ Below W.heap.size W w' := by
  obtain ⟨xv, xd, xb, xs⟩ := x
  unfold Sl.v
  have hB : Below W.heap.size W (W.alloc (.cells #[.bool xv, .bool xd, .int .i64 xb, .int .i64 xs] 31)) := (Below.refl _ W).alloc (Nat.le_refl _) _
  go_enter Tryz.func152, Tryz.ntmps152
  go_wp2_with fail
  go_ret
  exact ⟨by simp, hB⟩
set_option maxHeartbeats 1000000 in
theorem oldest1_any (W : World) (x : Sl) :
    Calls Tryz.prog 126 #[x.v] W fun e w' => e = .returned (.bool (x.dirty)) ∧ Below W.heap.size W w' := by
  obtain ⟨xv, xd, xb, xs⟩ := x
  unfold Sl.v
  have hB : Below W.heap.size W (W.alloc (.cells #[.bool xv, .bool xd, .int .i64 xb, .int .i64 xs] 31)) := (Below.refl _ W).alloc (Nat.le_refl _) _
  go_enter Tryz.func126, Tryz.ntmps126
  go_wp2_with fail
  go_ret
  exact ⟨by simp, hB⟩
set_option maxRecDepth 100000 in
set_option maxHeartbeats 4000000 in
theorem idx_find (W : World) (A : Option Addr) (n c : Nat) (l : List Sl) (hl : l.length = n) (hn : n ≤ 1000000) (hA : Reads W A (scs l)) (bb : Nat) (b : Int) (hb : W.cell? ⟨bb, 0, none⟩ = some (.int .i64 b)) (hbb : bb < W.heap.size) :
    Calls Tryz.prog 148 #[.slice A n c, .func (.func 149) #[] #[.pointer (some ⟨bb, 0, none⟩)]] W fun e w' => e = .returned (.int .i64 (idxOf (fun x => x.valid && x.block == b) l)) ∧ Below W.heap.size W w' := by
  have HL := Lib.hid hl
  have HA := Lib.hid hA
  have HB := Lib.hid hb
  clear hb
  clear hl hA
  go_enter Tryz.func148, Tryz.ntmps148
  go_wp2_with fail
  go_loopw [8] (fun z wr => ∃ i : Nat, z = .int .i64 i ∧ i ≤ n ∧ (∀ (j : Nat) (y : Sl), j < i → l[j]? = some y → (fun x => x.valid && x.block == b) y = false) ∧ Below W.heap.size W wr) (fun z _ => n - (intOf z).toNat)
  case atStart => exact ⟨0, rfl, Nat.zero_le _, (fun j y hj => by omega), Below.refl _ _⟩
  case round =>
    obtain ⟨i, rfl, hi, hno, hbw⟩ := hrel
    have HNO := Lib.hid hno
    clear hno
    by_cases hlt : i < n
    · obtain ⟨x, hx⟩ := sl_put (l := l) (i := i) (by rw [HL.out]; exact hlt)
      have u1 : (i : Int) < (n : Int) := by omega
      obtain ⟨b0, o, rfl, hbl, hcs⟩ := scs_read (HA.out.keep hbw) (by rw [HL.out]; omega)
      obtain ⟨c0, c1, c2, c3⟩ := hcs i x hx
      have HX := Lib.hid hx
      have HC := Lib.hid (find1_any wr x bb b ((hbw.cell (p := ⟨bb, 0, none⟩) hbb).trans HB.out) (Nat.lt_of_lt_of_le hbb hbw.size))
      have HBW := Lib.hid hbw
      clear hcs hx hbw
      have e1 : IntKind.i64.wrap ((i : Int) + 1) = ((i + 1 : Nat) : Int) := by rw [IntWalk.i64_in _ (by omega)]; rfl
      go_wp2_with fail
      refine HC.out.mono ?_
      rintro e w1 ⟨rfl, hb1⟩
      have HB1 := Lib.hid (HBW.out.trans (hb1.mono HBW.out.size))
      clear hb1 HBW HC c0 c1 c2 c3
      rcases hp : (fun x => x.valid && x.block == b) x with _ | _
      · have hp' := hp
        dsimp only at hp
        rw [hp]
        have HNO2 : Hid (∀ (j : Nat) (y : Sl), j < i + 1 → l[j]? = some y → (fun x => x.valid && x.block == b) y = false) := by
          intro j y hj hy
          by_cases e : j = i
          · subst e
            rw [HX.out] at hy
            injection hy with hy
            rw [← hy]
            exact hp'
          · exact HNO.out j y (by omega) hy
        clear hp hp'
        go_wp2_with fail
        go_roundw
        case rel => exact ⟨i + 1, by go_num, by omega, HNO2.out, HB1.out⟩
        case measure => simp [intOf]; omega
      · have HE := Lib.hid (idxOf_at _ l i x HX.out hp HNO.out)
        dsimp only at hp
        rw [hp]
        clear hp
        go_wp2_with fail
        go_ret
        exact ⟨by rw [HE.out]; rfl, HB1.out⟩
    · have hin : i = n := by omega
      subst hin
      have HE := Lib.hid (idxOf_no _ l (fun j y hy => HNO.out j y (by rw [← HL.out]; exact (List.getElem?_eq_some_iff.1 hy).1) hy))
      go_wp2_with fail
      go_ret
      exact ⟨by rw [HE.out]; rfl, hbw⟩
set_option maxRecDepth 100000 in
set_option maxHeartbeats 4000000 in
theorem idx_free (W : World) (A : Option Addr) (n c : Nat) (l : List Sl) (hl : l.length = n) (hn : n ≤ 1000000) (hA : Reads W A (scs l))  :
    Calls Tryz.prog 148 #[.slice A n c, .func (.func 150) #[] #[]] W fun e w' => e = .returned (.int .i64 (idxOf (fun x => !x.valid) l)) ∧ Below W.heap.size W w' := by
  have HL := Lib.hid hl
  have HA := Lib.hid hA
  clear hl hA
  go_enter Tryz.func148, Tryz.ntmps148
  go_wp2_with fail
  go_loopw [8] (fun z wr => ∃ i : Nat, z = .int .i64 i ∧ i ≤ n ∧ (∀ (j : Nat) (y : Sl), j < i → l[j]? = some y → (fun x => !x.valid) y = false) ∧ Below W.heap.size W wr) (fun z _ => n - (intOf z).toNat)
  case atStart => exact ⟨0, rfl, Nat.zero_le _, (fun j y hj => by omega), Below.refl _ _⟩
  case round =>
    obtain ⟨i, rfl, hi, hno, hbw⟩ := hrel
    have HNO := Lib.hid hno
    clear hno
    by_cases hlt : i < n
    · obtain ⟨x, hx⟩ := sl_put (l := l) (i := i) (by rw [HL.out]; exact hlt)
      have u1 : (i : Int) < (n : Int) := by omega
      obtain ⟨b0, o, rfl, hbl, hcs⟩ := scs_read (HA.out.keep hbw) (by rw [HL.out]; omega)
      obtain ⟨c0, c1, c2, c3⟩ := hcs i x hx
      have HX := Lib.hid hx
      have HC := Lib.hid (victim1_any wr x)
      have HBW := Lib.hid hbw
      clear hcs hx hbw
      have e1 : IntKind.i64.wrap ((i : Int) + 1) = ((i + 1 : Nat) : Int) := by rw [IntWalk.i64_in _ (by omega)]; rfl
      go_wp2_with fail
      refine HC.out.mono ?_
      rintro e w1 ⟨rfl, hb1⟩
      have HB1 := Lib.hid (HBW.out.trans (hb1.mono HBW.out.size))
      clear hb1 HBW HC c0 c1 c2 c3
      rcases hp : (fun x => !x.valid) x with _ | _
      · have hp' := hp
        dsimp only at hp
        rw [hp]
        have HNO2 : Hid (∀ (j : Nat) (y : Sl), j < i + 1 → l[j]? = some y → (fun x => !x.valid) y = false) := by
          intro j y hj hy
          by_cases e : j = i
          · subst e
            rw [HX.out] at hy
            injection hy with hy
            rw [← hy]
            exact hp'
          · exact HNO.out j y (by omega) hy
        clear hp hp'
        go_wp2_with fail
        go_roundw
        case rel => exact ⟨i + 1, by go_num, by omega, HNO2.out, HB1.out⟩
        case measure => simp [intOf]; omega
      · have HE := Lib.hid (idxOf_at _ l i x HX.out hp HNO.out)
        dsimp only at hp
        rw [hp]
        clear hp
        go_wp2_with fail
        go_ret
        exact ⟨by rw [HE.out]; rfl, HB1.out⟩
    · have hin : i = n := by omega
      subst hin
      have HE := Lib.hid (idxOf_no _ l (fun j y hy => HNO.out j y (by rw [← HL.out]; exact (List.getElem?_eq_some_iff.1 hy).1) hy))
      go_wp2_with fail
      go_ret
      exact ⟨by rw [HE.out]; rfl, hbw⟩
end Go.Proofs.YtogchafnnkajfaaGreat
