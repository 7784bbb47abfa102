/- StM StN StO -/
import Derived.Test.YtplhdjdkobddnaaGreatTr22
import Derived.Deep.DeepCutAuto
set_option linter.unusedVariables false
set_option maxRecDepth 100000
set_option maxHeartbeats 40000000
namespace Go.Proofs.YtplhdjdkobddnaaGreat
section
open Go.RowKit
attribute [local go_sem] Oper.semAt_some
def St.shr (S:St) (key:Int):Nat→Nat→Nd→Bool
 |0,b,n=>decide (1<S.bl.count b)
 |l+1,b,n=>decide (1<S.bl.count b) || (if findN n.es key<0 then false else match S.load (n.es[(findN n.es key).toNat]?.getD (0,0)).2 with
  |none=>false
  |some m=>St.shr S key l (n.es[(findN n.es key).toNat]?.getD (0,0)).2 m)
def entV (key:Int):Option Nat→Value
 |some v=>.agg #[.int .i64 key,.int .u64 (v:Int)]
 |none=>.agg #[.int .i64 0,.int .u64 0]
def cellN (w:World) (b i:Nat):Nat:=match w.cell? ⟨b,i,none⟩ with
 |some v=>(intOf v).toNat
 |none=>0
theorem shr_zero (S:St) (key:Int) (b:Nat) (n:Nd):S.shr key 0 b n=decide (1<S.bl.count b):=rfl
theorem shr_succ (S:St) (key:Int) (l b:Nat) (n:Nd):S.shr key (l+1) b n=(decide (1<S.bl.count b) || (if findN n.es key<0 then false else match S.load (n.es[(findN n.es key).toNat]?.getD (0,0)).2 with
  |none=>false
  |some m=>St.shr S key l (n.es[(findN n.es key).toNat]?.getD (0,0)).2 m)):=rfl
theorem cellN_of {W:World} {g:Nat} {t:TypeId} {a b c:Value} (h:Cs W g t #[a,b,c]):cellN W g 0=(intOf a).toNat:=by
 unfold cellN
 rw[h.at3.1]
theorem Fr.below2 {W w w':World} {g:Nat} (h:Fr (fun j=>j=g) w w') (hb:Below W.heap.size W w) (hg:W.heap.size≤g):Below W.heap.size W w':=
 ⟨h.os.trans hb.os,h.tape.trans hb.tape,h.output.trans hb.output,Nat.le_trans hb.size h.size,fun j hj=>(h.block j (by have:=hb.size;omega) (by omega)).trans (hb.block j hj)⟩
theorem Cs.put2 {W:World} {g:Nat} {t:TypeId} {a b:Value} (h:Cs W g t #[a,b]) (a' b':Value):Cs ((W.setCell ⟨g,0,none⟩ a').setCell ⟨g,1,none⟩ b') g t #[a',b']:=
 heap_setCell_same _ g 1 _ _ b' (heap_setCell_same _ g 0 _ _ a' h)
theorem find_at {l:List (Int × Nat)} {key:Int} (h:AscE l) (h0:¬findN l key<0):∃i:Nat,findN l key=(i:Int)∧i<l.length:=by
 rcases find_split h key with ⟨f1,f2⟩| ⟨pre,e0,post,hes,f2,-⟩
 ·omega
 ·exact ⟨pre.length,f2,by rw[hes];simp⟩
theorem set2_below {W W':World} {g:Nat} (h:Below W.heap.size W W') (hg:W.heap.size≤g) (a b:Value):Below W.heap.size W ((W'.setCell ⟨g,0,none⟩ a).setCell ⟨g,1,none⟩ b):=(h.setCell hg a).setCell hg b
theorem rlookup26_any (W:World) (F:Nat→Prop) (P:SP) (S:St) (ws:List Nat) (h:StIn W F P S ws) (Z:Nat→Bool) (rs pd:List Nat) (G:Gh) (hI:Inv S Z rs pd G) (r:Nat) (n:Nd) (hn:S.nd Z r=some n) (key:Int) :
  Calls Tryz.prog 96 #[.pointer (some ⟨P.s,0,none⟩),.int .i64 (r:Int),.int .i64 key] W fun e w'=>e=.returned (.tuple #[entV key (lookE (G.E r) key),.bool (lookE (G.E r) key).isSome,.bool (S.shr key n.lv r n),.int .i64 0])∧Below W.heap.size W w':=by
 have hlen:=h.mb.lt
 have hb0:Below W.heap.size W (W.alloc (.cells #[.int .i64 0,.int .u64 0] 94)):=(Below.refl _ W).alloc (Nat.le_refl _) _
 have hC0:=Cs.new W 94 #[.int .i64 0,.int .u64 0]
 have hsz:(W.alloc (.cells #[.int .i64 0,.int .u64 0] 94)).heap.size=W.heap.size+1:=by simp
 have HI:=Hi hI
 have HN:=Hi hn
 have HW:=Hi (h.wide (F':=fun j=>F j∧j<W.heap.size) (fun j h1 h2=>⟨h1,h2⟩) (fun j hj=>⟨h.inF j hj,h.lt j hj⟩))
 have hrl:=nd_lt hn
 have hld:=(nd_count hn).2.2
 clear h hI hn
 go_enter Tryz.func96,Tryz.ntmps96
 generalize hV:(W.alloc (.cells #[.int .i64 0,.int .u64 0] 94))=V at hb0 hC0 hsz
 have H:=Hi (HW.out.keep hb0)
 go_wp2_with (rw[hV])
 refine (rload26_any V _ P S ws H.out r hrl n hld).mono ?_
 rintro e w1 ⟨v,rfl,hnd,hb1⟩
 obtain ⟨A1,c1,rfl⟩:=hnd.val
 have HND:=Hi hnd
 have hq1:=hb1.size
 have HC1:=Hi (hC0.below hb1 hC0.lt)
 clear hnd hC0
 obtain ⟨ml,hml⟩ :∃ml,((n.lv:Nat):Int)=ml:=⟨_,rfl⟩
 obtain ⟨ms,hms⟩ :∃ms,((n.sq:Nat):Int)=ms:=⟨_,rfl⟩
 rw[hml,hms] at HND
 rw[hml,hms]
 go_wp2_with fail
 have hC2:=Cs.new w1 129 #[.int .i64 ml,.int .i64 ms,.slice A1 n.es.length c1]
 have hb2:Below w1.heap.size w1 (w1.alloc (.cells #[.int .i64 ml,.int .i64 ms,.slice A1 n.es.length c1] 129)):=(Below.refl _ w1).alloc (Nat.le_refl _) _
 have hsz2:(w1.alloc (.cells #[.int .i64 ml,.int .i64 ms,.slice A1 n.es.length c1] 129)).heap.size=w1.heap.size+1:=by simp
 generalize (w1.alloc (.cells #[.int .i64 ml,.int .i64 ms,.slice A1 n.es.length c1] 129))=w2 at hC2 hb2 hsz2 ⊢
 obtain ⟨B,hB⟩ :∃B,w1.heap.size=B:=⟨_,rfl⟩
 rw[hB] at hC2 hb2 hsz2
 have hBW:W.heap.size<B:=by omega
 rw[hB]
 have hbb:Below W.heap.size W w2:=hb0.trans ((hb1.mono (by omega)).trans (hb2.mono (by omega)))
 have HND2:Hid (NdV w2 (fun j=>OutF (FN F W) P j∧j≠B) n (.agg #[.int .i64 ml,.int .i64 ms,.slice A1 n.es.length c1])):=
  (HND.out.wide (Out':=fun j=>OutF (FN F W) P j∧j≠B) (fun j hj hlt=>by
   obtain ⟨k1,k2⟩:=hj
   refine ⟨⟨?_,k2⟩,by omega⟩
   rcases k1 with ⟨k3,k4⟩|k3
   ·exact .inl k3
   ·exact .inr (by omega))).fr (Fr.of_below (G:=fun _=>False) (by rw[hB];exact hb2)) (fun _ _ q=>q)
 have HC1b:=Hi (HC1.out.below hb2 (by omega))
 have HC2:=Hi hC2
 have HBB:=Hi hbb
 clear HND hC2 hbb HC1 H
 go_loopw [12,13] (fun bb ss wr=>∃(b:Nat) (m:Nd) (sh:Bool) (A:Option Addr) (c:Nat),bb=.int .i64 b∧ss=.bool sh∧Hid (S.nd Z b=some m∧lookE (G.E b) key=lookE (G.E r) key∧(sh || S.shr key m.lv b m)=S.shr key n.lv r n)∧Hid (Cs wr B 129 #[.int .i64 (m.lv:Int),.int .i64 (m.sq:Int),.slice A m.es.length c])∧Hid (NdV wr (fun j=>OutF (FN F W) P j∧j≠B) m (.agg #[.int .i64 (m.lv:Int),.int .i64 (m.sq:Int),.slice A m.es.length c]))∧Hid (Cs wr W.heap.size 94 #[.int .i64 0,.int .u64 0])∧Hid (Below W.heap.size W wr)) (fun _ _ wr=>cellN wr B 0)
 case atStart=>
  refine ⟨r,n,false,A1,c1,rfl,rfl,⟨HN.out,rfl,rfl⟩,?_,?_,HC1b,HBB⟩
  ·rw[←hml,←hms] at HC2;exact HC2
  ·rw[←hml,←hms] at HND2;exact HND2
 case round=>
  obtain ⟨b,m,sh,A,c,rfl,rfl,hm,hcs,hnd,hc6,hbw⟩:=hrel
  obtain ⟨hm1,hm2,hm3⟩:=hm.out
  have ho:=HI.out.nd b m hm1
  have hst:=Hi (HW.out.keep hbw.out)
  have x1:wr.cell? ⟨P.s,1,none⟩=some (.pointer (some ⟨P.b.p,0,none⟩)):=hst.out.cs.cell 1
  obtain ⟨-,-,-,hrd,-,-,hE,h16,hsq,hl8⟩:=hnd.out.parts
  have hblt:=nd_lt hm1
  have hct:=rcount_any hst.out.mb b
  obtain ⟨cc,hcc⟩ :∃cc,S.bl.count b=cc:=⟨_,rfl⟩
  rw[hcc] at hct
  have hl7:=ho.ln
  have HM:=Hi hm1
  have HM2:=Hi hm2
  have HM3:=Hi hm3
  have HO:=Hi ho
  have HRD:=Hi hrd
  have HE:=Hi hE
  have HCC:=Hi hcc
  have hBr:=hcs.out.lt
  obtain ⟨L,hL⟩ :∃L,m.es.length=L:=⟨_,rfl⟩
  obtain ⟨l,hlv⟩ :∃l,m.lv=l:=⟨_,rfl⟩
  obtain ⟨q,hqq⟩ :∃q,m.sq=q:=⟨_,rfl⟩
  have HLL:=Hi hL
  have HLV:=Hi hlv
  have HSQ:=Hi hqq
  rw[hL,hlv,hqq] at hcs
  clear hm1 hm2 hm3 hm ho hrd hE hcc
  rw[hL] at hl7 hl8
  rw[hlv] at h16
  rw[hqq] at hsq
  clear hL hlv hqq
  have hfd:∀w,Below wr.heap.size wr w→Calls Tryz.prog 125 #[.agg #[.int .i64 (l:Int),.int .i64 (q:Int),.slice A L c],.int .i64 key] w fun e w'=>e=.returned (.tuple #[.int .i64 (findN m.es key),.bool (exactN m.es key)])∧Below w.heap.size w w':=fun w hw=>
   refFind_any l q key A c L m.es w HLL.out (HRD.out.keep hw) (by omega)
  have HFD:=Hi hfd
  clear hfd
  obtain ⟨y0,y1,y2,g0,g1,g2⟩:=hcs.out.at3
  have HCN:=Hi (cellN_of hcs.out)
  obtain ⟨cB,hcB⟩ :∃cB:Bool,decide (1<cc)=cB:=⟨_,rfl⟩
  have HCB:=Hi hcB
  clear hcB
  go_upto_region 5 with (fail)
  go_cut [13] (fun s13 wx=>s13=.bool (sh || cB)∧wx=wr)
  case first=>
   cases sh
   ·go_wp2_with fail
    refine hct.mono ?_
    rintro e w3 ⟨rfl,rfl⟩
    have e1:decide ((1:Int)<(cc:Int))=cB:=by rw[←HCB.out];exact decide_eq_decide.2 (by omega)
    go_wp2_with fail
    go_meet
    exact ⟨rfl,rfl⟩
   ·go_wp2_with fail
    go_meet
    exact ⟨rfl,rfl⟩
  case rest=>
   obtain ⟨rfl,hw⟩:=hcut
   have hw:=hw.symm
   subst hw
   clear hct x1
   go_wp2_with fail
   refine (HFD.out wr (Below.refl _ wr)).mono ?_
   rintro e w4 ⟨rfl,hb4⟩
   have hcs4:=Hi (hcs.out.below hb4 hBr)
   have hc64:=Hi (hc6.out.below hb4 hc6.out.lt)
   have hnd4:=Hi (hnd.out.fr (Fr.of_below (G:=fun _=>False) hb4) (fun _ _ q=>q))
   have hbw4:=Hi (hbw.out.trans (hb4.mono hbw.out.size))
   have hrd4:=Hi (HRD.out.keep hb4)
   obtain ⟨y0,y1,y2,g0,g1,g2⟩:=hcs4.out.at3
   obtain ⟨r0,r1,rg0,rg1⟩:=hc64.out.at2
   have hB4:=hcs4.out.lt
   have hW4:=hc64.out.lt
   obtain ⟨f,hf⟩ :∃f,findN m.es key=f:=⟨_,rfl⟩
   obtain ⟨ex,hex⟩ :∃ex,exactN m.es key=ex:=⟨_,rfl⟩
   have HF:=Hi hf
   have HX:=Hi hex
   rw[hf,hex]
   clear hf hex HFD hcs hc6 hnd
   by_cases hf0:f<0
   ·
    have hno:lookE (G.E r) key=none∧(sh || cB)=S.shr key n.lv r n:=by
     have hlk:=look_ok (key:=key) m.lv b m HI.out HM.out rfl
     rw[HLV.out] at hlk
     have h3:=HM3.out
     rw[HLV.out] at h3
     cases l with
     |zero=>
      unfold St.look at hlk
      rw[shr_zero] at h3
      have:exactN m.es key=false:=by
       unfold exactN
       rw[HF.out]
       exact decide_eq_false (fun q=>by omega)
      rw[this,if_neg (by simp)] at hlk
      injection hlk with hlk
      rw[HCC.out,HCB.out] at h3
      exact ⟨HM2.out.symm.trans hlk.symm,h3⟩
     |succ l=>
      unfold St.look at hlk
      rw[shr_succ] at h3
      rw[HF.out,if_pos hf0] at hlk h3
      injection hlk with hlk
      rw[HCC.out,HCB.out,Bool.or_false] at h3
      exact ⟨HM2.out.symm.trans hlk.symm,h3⟩
    obtain ⟨hno1,hno2⟩:=hno
    have HNO:=Hi hno1
    have HNO2:=Hi hno2
    clear hno1 hno2
    have hfin:=Hi (hc64.out.put2 (.int .i64 0) (.int .u64 0))
    by_cases hl0:l=0
    ·subst hl0
     go_wp2_with fail
     obtain ⟨t0,t1,-,-⟩:=hfin.out.at2
     exact bodyPost_ret (v:=.tuple #[.agg #[.int .i64 0,.int .u64 0],.bool false,.bool (sh || cB),.int .i64 0]) (by simp[results,Tryz.f96,go_sem,t0,t1]) rfl ⟨by rw[HNO.out,HNO2.out];rfl,set2_below hbw4.out (Nat.le_refl _) _ _⟩
    ·have dl:(0:Int)<(l:Int):=by omega
     have dl2:¬(l:Int)=0:=by omega
     have hL0:¬(L:Int)=0:=by
      have:=HO.out.f.ne (by rw[HLV.out];exact hl0)
      have h2:m.es.length≠0:=fun q=>this (List.length_eq_zero_iff.1 q)
      rw[HLL.out] at h2
      omega
     go_wp2_with fail
     obtain ⟨t0,t1,-,-⟩:=hfin.out.at2
     exact bodyPost_ret (v:=.tuple #[.agg #[.int .i64 0,.int .u64 0],.bool false,.bool (sh || cB),.int .i64 0]) (by simp[results,Tryz.f96,go_sem,t0,t1]) rfl ⟨by rw[HNO.out,HNO2.out];rfl,set2_below hbw4.out (Nat.le_refl _) _ _⟩
   ·obtain ⟨i,hi,hiL⟩:=find_at HO.out.f.asc (by rw[HF.out];exact hf0)
    rw[HF.out] at hi
    rw[HLL.out] at hiL
    subst hi
    obtain ⟨ab,ao,rfl,hal,hcl⟩:=hrd4.out.e (by rw[HLL.out];omega)
    obtain ⟨hk1,hk2⟩:=hcl i (by rw[HLL.out];exact hiL)
    have hvb:=(HE.out.at i).2.2
    obtain ⟨kk,hkk⟩ :∃kk,(m.es[i]?.getD (0,0)).1=kk:=⟨_,rfl⟩
    obtain ⟨vv,hvv⟩ :∃vv,(m.es[i]?.getD (0,0)).2=vv:=⟨_,rfl⟩
    rw[hkk] at hk1
    rw[hvv] at hk2 hvb
    have HKK:=Hi hkk
    have HVV:=Hi hvv
    clear hcl hkk hvv
    have dnn:¬(i:Int)<0:=by omega
    by_cases hl0:l=0
    ·subst hl0
     have hlf:lookE (G.E r) key=(bif ex then some vv else none)∧(sh || cB)=S.shr key n.lv r n∧(ex=false∨kk=key):=by
      have hlk:=look_ok (key:=key) m.lv b m HI.out HM.out rfl
      rw[HLV.out] at hlk
      have h3:=HM3.out
      rw[HLV.out] at h3
      unfold St.look at hlk
      rw[shr_zero] at h3
      rw[HX.out,HF.out,Int.toNat_natCast,HVV.out] at hlk
      injection hlk with hlk
      rw[HCC.out,HCB.out] at h3
      refine ⟨HM2.out.symm.trans (hlk.symm.trans (by cases ex <;> rfl)),h3,?_⟩
      have:=HX.out
      rcases ex with _|_
      ·exact .inl rfl
      ·unfold exactN at this
       have:=(of_decide_eq_true this).2
       rw[HF.out,Int.toNat_natCast,HKK.out] at this
       exact .inr this
     obtain ⟨hl1,hl2,hl3⟩:=hlf
     have HL1:=Hi hl1
     have HL2:=Hi hl2
     have HL3:=Hi hl3
     clear hl1 hl2 hl3
     cases ex
     ·have hfin:=Hi (hc64.out.put2 (.int .i64 0) (.int .u64 0))
      go_wp2_with fail
      obtain ⟨t0,t1,-,-⟩:=hfin.out.at2
      exact bodyPost_ret (v:=.tuple #[.agg #[.int .i64 0,.int .u64 0],.bool false,.bool (sh || cB),.int .i64 0]) (by simp[results,Tryz.f96,go_sem,t0,t1]) rfl ⟨by rw[HL1.out,HL2.out];rfl,set2_below hbw4.out (Nat.le_refl _) _ _⟩
     ·have hfin:=Hi (hc64.out.put2 (.int .i64 kk) (.int .u64 (vv:Int)))
      go_wp2_with fail
      obtain ⟨t0,t1,-,-⟩:=hfin.out.at2
      exact bodyPost_ret (v:=.tuple #[.agg #[.int .i64 kk,.int .u64 (vv:Int)],.bool true,.bool (sh || cB),.int .i64 0]) (by simp[results,Tryz.f96,go_sem,t0,t1]) rfl ⟨by rw[HL1.out,HL2.out,←HL3.out.resolve_left (fun q=>by cases q)];rfl,set2_below hbw4.out (Nat.le_refl _) _ _⟩
    ·have dl:(0:Int)<(l:Int):=by omega
     have dl2:¬(l:Int)=0:=by omega
     have hL0:¬(L:Int)=0:=by omega
     have hch:∃m2:Nd,S.nd Z vv=some m2∧m2.lv+1=l∧m2.sq≤q∧lookE (G.E vv) key=lookE (G.E r) key∧((sh || cB) || S.shr key m2.lv vv m2)=S.shr key n.lv r n:=by
      have hl0':m.lv≠0:=by rw[HLV.out];exact hl0
      have hme:m.es[i]?.getD (0,0)∈m.es:=by rw[getD_mem (by rw[HLL.out];exact hiL)];exact List.getElem_mem _
      obtain ⟨m2,k1,k2,-,-⟩:=HO.out.f.kid hl0' _ hme
      rw[HVV.out] at k1
      rw[HLV.out] at k2
      have hk:=HO.out.ks vv m2 (by rw[←HVV.out];exact kid_mem hl0' hme) k1
      rw[HSQ.out] at hk
      have hlk:=look_ok (key:=key) m.lv b m HI.out HM.out rfl
      have hlk2:=look_ok (key:=key) m2.lv vv m2 HI.out k1 rfl
      have h3:=HM3.out
      have e1:m.lv=m2.lv+1:=by rw[HLV.out];omega
      rw[e1] at hlk h3
      rw[shr_succ] at h3
      unfold St.look at hlk
      rw[HF.out,if_neg hf0,Int.toNat_natCast,HVV.out,(nd_count k1).2.2] at hlk h3
      dsimp only at hlk h3
      rw[hlk2] at hlk
      injection hlk with hlk
      rw[HCC.out,HCB.out] at h3
      exact ⟨m2,k1,k2,hk,hlk.trans HM2.out,by rw[←h3,Bool.or_assoc]⟩
     obtain ⟨m2,k1,k2,k3,k4,k5⟩:=hch
     have hcc:∀w,Below w4.heap.size w4 w→Calls Tryz.prog 123 #[.pointer (some ⟨P.s,0,none⟩),.agg #[.int .i64 (l:Int),.int .i64 (q:Int),.slice (some ⟨ab,ao,none⟩) L c],.int .u64 (vv:Int)] w fun e w'=>∃(v:Option Addr) (c2:Nat),e=.returned (.tuple #[.int .i64 (vv:Int),.agg #[.int .i64 (m2.lv:Int),.int .i64 (m2.sq:Int),.slice v m2.es.length c2],.int .i64 0])∧Hid (NdV w' (fun j=>OutF (FN F W) P j∧j≠B) m2 (.agg #[.int .i64 (m2.lv:Int),.int .i64 (m2.sq:Int),.slice v m2.es.length c2]))∧Below w4.heap.size w4 w':=fun w hw=>by
      have hs:=HW.out.keep (hbw4.out.trans (hw.mono hbw4.out.size))
      refine (rchild26_any w _ P S ws hs l q (some ⟨ab,ao,none⟩) L c vv (nd_lt k1) m2 (nd_count k1).2.2 k2 k3).mono ?_
      rintro e w' ⟨v,rfl,hnd,hb⟩
      obtain ⟨A2,c2,rfl⟩:=hnd.val
      have hsz:=hw.size
      refine ⟨A2,c2,rfl,hnd.wide (fun j hj _=>?_),hw.trans (hb.mono hsz)⟩
      obtain ⟨a1,a2⟩:=hj
      rcases a1 with ⟨a3,a4⟩|a3
      ·exact ⟨⟨.inl a3,a2⟩,by omega⟩
      ·exact ⟨⟨.inr (by have:=hbw4.out.size;omega),a2⟩,by omega⟩
     have HCH:=Hi hcc
     have K1:=Hi k1
     have K4:=Hi k4
     have K5:=Hi k5
     clear hcc k1 k4 k5
     go_wp2_with fail
     go_region_with (go_at_call 123;go_loud (with_reducible refine (HCH.out _ (by first|exact Below.refl _ _|exact (Below.refl _ _).drew)).mono ?_;rintro e w5 ⟨A2,c2,rfl,hnd5,hb5⟩;have hc5:=Hi (hcs4.out.below hb5 hB4);obtain ⟨z0,z1,z2,zg0,zg1,zg2⟩:=hc5.out.at3))
     all_goals
      go_wp2_with fail
      go_roundw
      case rel=>
       have hfr:=Fr.set (G:=fun j=>j=B) (b:=B) (i:=2) (Fr.set (G:=fun j=>j=B) (b:=B) (i:=1) (Fr.set (G:=fun j=>j=B) (b:=B) (i:=0) (Fr.refl _ w5) (.inl rfl) (.int .i64 (m2.lv:Int))) (.inl rfl) (.int .i64 (m2.sq:Int))) (.inl rfl) (.slice A2 m2.es.length c2)
       refine ⟨vv,m2,sh || cB,A2,c2,rfl,rfl,⟨K1.out,K4.out,K5.out⟩,hc5.out.put3 _ _ _,hnd5.out.fr hfr (fun j hj e=>hj.2 e),(hc64.out.below hb5 hW4).fr hfr (by omega),?_⟩
       have hbb:=hbw4.out.trans (hb5.mono hbw4.out.size)
       exact hfr.below2 hbb (by omega)
      case measure=>
       rw[HCN.out,cellN_of (hc5.out.put3 (.int .i64 (m2.lv:Int)) (.int .i64 (m2.sq:Int)) (.slice A2 m2.es.length c2))]
       simp[intOf]
       omega
end
section
open Go.RowKit
attribute [local go_sem] Oper.semAt_some
theorem rfresh_none (W:World) (F:Nat→Prop) (P:SP) (S:St) (ws:List Nat) (h:StIn W F P S ws) (hp:S.bl.pick=none) (lv sq:Int) (A:Option Addr) (len c:Nat) :
  Calls Tryz.prog 119 #[.pointer (some ⟨P.s,0,none⟩),.agg #[.int .i64 lv,.int .i64 sq,.slice A len c]] W fun e w'=>e=.returned (.tuple #[.int .i64 0,.int .i64 14])∧Fr P.has W w':=by
 have hbx:Below W.heap.size W (W.alloc (.cells #[.int .i64 lv,.int .i64 sq,.slice A len c] 129)):=(Below.refl _ W).alloc (Nat.le_refl _) _
 have H:=Hi (h.keep hbx)
 have HP:=Hi hp
 clear h hp
 go_enter Tryz.func119,Tryz.ntmps119
 generalize hV:(W.alloc (.cells #[.int .i64 lv,.int .i64 sq,.slice A len c] 129))=V at hbx H
 have x1:V.cell? ⟨P.s,1,none⟩=some (.pointer (some ⟨P.b.p,0,none⟩)):=H.out.cs.cell 1
 go_wp2_with (rw[hV])
 have hN:S.bl.pickN=0:=by unfold Mp.pickN;rw[HP.out];rfl
 have hE:S.bl.pickE=14:=by unfold Mp.pickE;rw[HP.out];rfl
 have hal:=ralloc_any H.out.mb
 rw[hN,hE] at hal
 clear hN hE hV
 refine hal.mono ?_
 rintro e w1 ⟨rfl,-,hf1⟩
 have F1:=Hi (hf1.has has_bn)
 clear hf1
 go_wp2_with fail
 go_ret2
 exact ⟨rfl,(Fr.of_below hbx).trans F1.out⟩
theorem rtouch_none (W:World) (F:Nat→Prop) (P:SP) (S:St) (ws:List Nat) (h:StIn W F P S ws) (b:Nat) (n:Nd) (k:Bool) (ht:S.touch b n k=none) (lv sq:Int) (A:Option Addr) (len c:Nat) :
  Calls Tryz.prog 144 #[.pointer (some ⟨P.s,0,none⟩),.int .i64 (b:Int),.agg #[.int .i64 lv,.int .i64 sq,.slice A len c],.bool k] W fun e w'=>e=.returned (.tuple #[.int .i64 0,.int .i64 14])∧Fr P.has W w':=by
 have hbx:Below W.heap.size W (W.alloc (.cells #[.int .i64 lv,.int .i64 sq,.slice A len c] 129)):=(Below.refl _ W).alloc (Nat.le_refl _) _
 have hx0:=box_cells (w:=W) (lv:=lv) (sq:=sq) (A:=A) (n:=len) (c:=c)
 have H:=Hi (h.keep hbx)
 obtain ⟨hp,hno⟩ :S.bl.pick=none∧¬(S.bl.was b=0∧S.bl.count b=1):=by
  unfold St.touch at ht
  split at ht
  ·cases ht
  ·rename_i hq
   split at ht
   ·rename_i hp
    exact ⟨hp,hq⟩
   ·cases ht
 have HP:=Hi hp
 clear h hp ht
 go_enter Tryz.func144,Tryz.ntmps144
 generalize hV:(W.alloc (.cells #[.int .i64 lv,.int .i64 sq,.slice A len c] 129))=V at hbx hx0 H
 have x1:V.cell? ⟨P.s,1,none⟩=some (.pointer (some ⟨P.b.p,0,none⟩)):=H.out.cs.cell 1
 obtain ⟨y0,y1,y2⟩:=hx0
 have hw:=rwas_any H.out.mb b
 have hc:=rcount_any H.out.mb b
 obtain ⟨cc,hcc⟩ :∃cc,S.bl.count b=cc:=⟨_,rfl⟩
 rw[hcc] at hc hno
 obtain ⟨ww,hww⟩ :∃ww,S.bl.was b=ww:=⟨_,rfl⟩
 rw[hww] at hw hno
 clear hcc hww
 go_wp2_with (rw[hV])
 refine hw.mono ?_
 rintro e w1 ⟨rfl,rfl⟩
 by_cases dw:ww=0
 ·have d1:¬(cc:Int)=1:=by omega
  have d0:(ww:Int)=0:=by omega
  go_wp2_with fail
  refine hc.mono ?_
  rintro e w1 ⟨rfl,rfl⟩
  go_wp2_with fail
  refine (rfresh_none V F P S ws H.out HP.out lv sq A len c).mono ?_
  rintro e w2 ⟨rfl,f3⟩
  have F3:=Hi f3
  clear f3
  go_wp2_with fail
  go_ret2
  exact ⟨rfl,(Fr.of_below hbx).trans F3.out⟩
 ·have d0:¬(ww:Int)=0:=by omega
  go_wp2_with fail
  refine (rfresh_none V F P S ws H.out HP.out lv sq A len c).mono ?_
  rintro e w2 ⟨rfl,f3⟩
  have F3:=Hi f3
  clear f3
  go_wp2_with fail
  go_ret2
  exact ⟨rfl,(Fr.of_below hbx).trans F3.out⟩
end
section
open Go.RowKit
attribute [local go_sem] Oper.semAt_some
def stv (l:List (Nat × Nat)):List Value:=l.flatMap fun p=>[.int .i64 (p.1:Int),.int .i64 (p.2:Int)]
theorem stv_length (l:List (Nat × Nat)):(stv l).length=l.length * 2:=by
 unfold stv
 induction l with
 |nil=>rfl
 |cons a l ih=>rw[List.flatMap_cons,List.length_append,ih,List.length_cons];simp;omega
theorem stv_append (l m:List (Nat × Nat)):stv (l++m)=stv l++stv m:=by simp[stv]
theorem stv_last (l:List (Nat × Nat)) (c i:Nat):(stv (l++ [(c,0)])).set (l.length * 2+1) (.int .i64 (i:Int))=stv (l++ [(c,i)]):=by
 rw[stv_append,stv_append,List.set_append_right _ _ (by rw[stv_length];omega),stv_length]
 have:l.length * 2+1 - l.length * 2=1:=by omega
 rw[this]
 rfl
theorem step_info:(Tryz.prog.info? 189).map (fun i=>(i.zero,i.size,i.bytes))=some (some (.agg #[.int .i64 0,.int .i64 0]),2,16):=by kernel_rfl
section
variable {W W':World} {F F':Nat→Prop} {P:SP} {S:St} {ws:List Nat} {G:Nat→Prop}
theorem rrt_any (W:World) (F:Nat→Prop) (P:SP) (S:St) (ws:List Nat) (h:StIn W F P S ws) (b:Nat) (n:Nd) (k:Bool) (hp:TouchPre S b n k) (A:Option Addr) (len c:Nat) (hl:n.es.length=len) (hv:NdV W (OutF F P) n (.agg #[.int .i64 (n.lv:Int),.int .i64 (n.sq:Int),.slice A len c])) :
  Calls Tryz.prog 144 #[.pointer (some ⟨P.s,0,none⟩),.int .i64 (b:Int),.agg #[.int .i64 (n.lv:Int),.int .i64 (n.sq:Int),.slice A len c],.bool k] W fun e w'=>Fr P.has W w'∧((S.rt b n k=none∧e=.returned (.tuple #[.int .i64 0,.int .i64 14]))∨∃d S1,S.rt b n k=some (d,S1)∧e=.returned (.tuple #[.int .i64 (d:Int),.int .i64 0])∧StIn w' F P S1 ws):=by
 unfold St.rt
 rcases ht:S.touch b n k with _| ⟨d,S1⟩
 ·refine (rtouch_none W F P S ws h b n k ht _ _ A len c).mono ?_
  rintro e w' ⟨rfl,hf⟩
  exact ⟨hf,.inl ⟨rfl,rfl⟩⟩
 ·refine (rtouch_any W F P S ws h b n A len c k hl d S1 ht hp.c0 hv hp.ok hp.de).mono ?_
  rintro e w' ⟨rfl,hs,hf⟩
  exact ⟨hf,.inr ⟨_,_,rfl,rfl,hs⟩⟩
end
end
end Go.Proofs.YtplhdjdkobddnaaGreat
