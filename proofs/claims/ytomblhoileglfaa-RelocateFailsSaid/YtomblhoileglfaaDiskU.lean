/-
  Disks: SetMissing; an array of two disks, one of which may be missing.
-/
import Derived.Test.YtomblhoileglfaaRelN
namespace Go.Proofs.Ytomblhoileglfaa
set_option linter.unusedVariables false
open Go.RowKit
attribute [local go_sem] Oper.semAt_some

def DS.miss (S : DS) (i : Nat) : DS := { S with dr := S.dr.set i ((S.drv i).1, (S.drv i).2.1, true) }
theorem dcells_put (l : List Dl) (i : Nat) (y y' : Dl) (h : l[i]? = some y) (j : Nat) (hj : j < 3) (u : Value) (he : y.cells.set j u = y'.cells) : (dcells l).set (i * 3 + j) u = dcells (l.set i y') := by
  induction l generalizing i with
  | nil => simp at h
  | cons z r ih =>
    rcases i with _ | i
    · simp at h
      subst h
      show (z.cells ++ dcells r).set (0 * 3 + j) u = y'.cells ++ dcells r
      rw [Nat.zero_mul, Nat.zero_add, List.set_append_left _ _ (by simp [Dl.cells]; omega), he]
    · have := ih i (by simpa using h)
      show (z.cells ++ dcells r).set ((i + 1) * 3 + j) u = z.cells ++ dcells (r.set i y')
      rw [← this, List.set_append_right _ _ (by simp [Dl.cells]; omega)]
      congr 2
      simp [Dl.cells]; omega
theorem DS.Ok.miss {S : DS} (h : S.Ok) {i : Nat} (hi : i < S.dr.length) : (S.miss i).Ok := by
  have hm : S.drv i ∈ S.dr := by unfold DS.drv; rw [List.getElem?_eq_getElem hi]; exact List.getElem_mem _
  have hd := h.drv _ hm
  have hlen : ∀ k, ((S.miss i).drv k).1.length = (S.drv k).1.length := by
    intro k
    rw [drv_set (S.miss i) S.dr i k _ hi rfl]
    by_cases e : k = i
    · subst e; rw [if_pos rfl]
    · rw [if_neg e]; rfl
  refine ⟨by simp only [DS.miss, List.length_set]; exact h.nd, ?_, ?_, h.fuse, h.wr⟩
  · intro x hx
    simp only [DS.miss] at hx
    rcases List.mem_or_eq_of_mem_set hx with hx | rfl
    · exact h.drv x hx
    · exact hd
  · intro r hr
    rw [hlen]
    simp only [DS.miss, List.length_set] at hr ⊢
    exact h.log r hr
theorem DLay.miss_set {W : World} {g b cap n : Nat} {S : DS} {lv : Value} {mb : Nat} {zs : List Dl} (h : DLay W g S (.slice (some ⟨b, 0, none⟩) n cap) lv mb zs) (hn : n = S.dr.length) (i : Nat) (z : Dl) (hz : zs[i]? = some z) (hx : z.x = S.drv i) :
    DLay (W.setCell ⟨b, i * 3 + 2, none⟩ (.bool true)) g (S.miss i) (.slice (some ⟨b, 0, none⟩) n cap) lv mb (zs.set i ⟨z.nb, z.db, (z.x.1, z.x.2.1, true)⟩) := by
  subst hn
  have hf := fr_set W b (i * 3 + 2) (.bool true)
  have hlen : (S.miss i).dr.length = S.dr.length := by simp [DS.miss]
  have hil : i < zs.length := (List.getElem?_eq_some_iff.1 hz).1
  obtain ⟨cur, hcur⟩ : ∃ cur, Cs W b 89 cur := by
    rcases h.drv.2 with ⟨h', _⟩ | ⟨g', cap', cur, h', _, hg, _⟩
    · simp at h'
    · simp only [Value.slice.injEq, Option.some.injEq, Addr.mk.injEq, and_true, true_and] at h'
      obtain ⟨rfl, rfl⟩ := h'
      exact ⟨cur, hg⟩
  have hr := (h.drv.stored (i * 3 + 2) (.bool true)).1
  rw [dcells_put zs i z ⟨z.nb, z.db, (z.x.1, z.x.2.1, true)⟩ hz 2 (by omega) _ rfl] at hr
  refine ⟨h.arr.fr hf (cs_ne hcur h.arr (by decide)), by rw [hlen]; exact hr, (hf.block mb (map_lt h.map) (cs_map_ne hcur h.map)).trans h.map, own_fr h.log hf (cs_own_ne hcur h.log (by decide)), ?_, ?_, ?_, ?_⟩
  · simp only [DS.miss, List.map_set, ← hx]
    rw [h.dr]
  · intro y hy
    obtain ⟨k, hk, hkl⟩ := set_mem _ _ _ _ hy
    by_cases e : k = i
    · subst e
      rw [List.getElem?_set_self hil] at hk
      injection hk with hk
      subst hk
      exact (h.now z (List.mem_of_getElem? hz)).fr hf (fun e => cs_ne hcur (h.now z (List.mem_of_getElem? hz)) (by decide) e)
    · rw [List.getElem?_set_ne (Ne.symm e)] at hk
      exact (h.now y (List.mem_of_getElem? hk)).fr hf (fun e => cs_ne hcur (h.now y (List.mem_of_getElem? hk)) (by decide) e)
  · intro y hy
    obtain ⟨k, hk, hkl⟩ := set_mem _ _ _ _ hy
    by_cases e : k = i
    · subst e
      rw [List.getElem?_set_self hil] at hk
      injection hk with hk
      subst hk
      exact (h.dur z (List.mem_of_getElem? hz)).fr hf (fun e => cs_ne hcur (h.dur z (List.mem_of_getElem? hz)) (by decide) e)
    · rw [List.getElem?_set_ne (Ne.symm e)] at hk
      exact (h.dur y (List.mem_of_getElem? hk)).fr hf (fun e => cs_ne hcur (h.dur y (List.mem_of_getElem? hk)) (by decide) e)
  · have := h.apart
    rwa [← apart_set zs i z ⟨z.nb, z.db, (z.x.1, z.x.2.1, true)⟩ hz rfl rfl] at this

theorem amiss_any (W : World) (F : Nat → Prop) (g i : Nat) (S : DS) (h : DskAt W F g S) (hi : i < S.dr.length) :
    Calls Try.prog 30 #[.pointer (some ⟨g, 0, none⟩), .int .i64 (i : Int), .bool true] W fun e w' => e = .returned (.int .i64 0) ∧ DskAt w' F g (S.miss i) ∧ Fr F W w' := by
  obtain ⟨ho, dv, lv, mb, zs, hl, hin⟩ := h
  obtain ⟨x0, x1, x2, x3, x4, x5⟩ := hl.cells
  obtain ⟨b, cap, z, rfl, hcl, hz, hzm, hx, c0, c1, c2⟩ := hl.one i hi
  have hnd := ho.nd
  have HL := Lib.hid (hl.miss_set rfl i z hz hx)
  have HI := Lib.hid (hin.setz i z ⟨z.nb, z.db, (z.x.1, z.x.2.1, true)⟩ hz rfl rfl)
  have HO := Lib.hid (ho.miss hi)
  have f2 := hl.drv.frozenAt (i * 3 + 2)
  have hFb : F b := hin.drv b rfl
  have t1 : ¬ (i : Int) < 0 := by omega
  have t2 : ¬ (S.dr.length : Int) ≤ (i : Int) := by omega
  have t3 : (i : Int) < (S.dr.length : Int) := by omega
  clear x1 x2 x3 x4 x5 hl hin ho hz hzm hx c0 c1
  generalize S.dr.length = nd at *
  go_enter Try.func30, Try.ntmps30
  go_wp2_with fail
  go_ret
  exact ⟨rfl, ⟨HO.out, _, _, _, _, HL.out, HI.out⟩, (Fr.refl F W).set (.inl hFb) _⟩

end Go.Proofs.Ytomblhoileglfaa
