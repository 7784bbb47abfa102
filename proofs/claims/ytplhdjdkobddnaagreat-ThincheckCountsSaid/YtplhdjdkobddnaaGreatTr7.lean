/- NodeI NodeJ NodeK NodeL NodeM NodeN NodeO NodeP NodeQ NodeR NodeS NodeT -/
import Derived.Test.YtplhdjdkobddnaaGreatTr6
import Derived.Laws.StructEq
import Derived.Lib.AppendZerosOnto
import Derived.Lib.Overlaps
import Derived.Lib.SliceRun
import Derived.Laws.CopyRow
import Derived.Laws.Externs
set_option linter.unusedVariables false
set_option maxRecDepth 100000
set_option maxHeartbeats 40000000
namespace Go.Proofs.YtplhdjdkobddnaaGreat
section
open Go.RowKit
theorem grown_undrew {w w':World} {row:Option Nat} (h:w.drew.grownBy w' row):w.grownBy w' row:=⟨h.os,h.tape,h.output,h.size,h.block⟩
theorem refDecode_no (A:Option Addr) (c n:Nat) (l:List Nat) (block:Int) (w:World) (hn:l.length=n) (hA:Reads w A (uv l)) (hl:W64 l) (hlen:n≤1000000) (hE:sealedN l 2 block≠0) :
  Calls Tryz.prog 100 #[.slice A n c,.int .i64 block] w fun e w'=>e=.returned (.tuple #[.agg #[.int .i64 0,.int .i64 0,.slice none 0 0],.int .i64 (sealedN l 2 block)])∧Below w.heap.size w w':=by
 have HS:=Hi (refSealed_any A c n l 2 block (w.alloc (.cells #[.int .i64 0,.int .i64 0,.slice none 0 0] 129)) hn (hA.alloc _) hl hlen)
 have hb0:Below w.heap.size w (w.alloc (.cells #[.int .i64 0,.int .i64 0,.slice none 0 0] 129)):=(Below.refl _ _).alloc (Nat.le_refl _) _
 have hC:=Cs.new w 129 #[.int .i64 0,.int .i64 0,.slice none 0 0]
 generalize sealedN l 2 block=v at *
 have hv1:(v != 0)=true:=by simpa using hE
 clear hE hn
 go_enter Tryz.func100,Tryz.ntmps100
 go_wp2_with fail
 refine HS.out.mono ?_
 rintro e w1 ⟨rfl,hb1⟩
 have hC1:=hC.below hb1 (by simp)
 obtain ⟨x0,x1,x2,y0,y1,y2⟩:=hC1.at3
 have hbw:=hb0.trans (hb1.mono hb0.size)
 have hC2:=hC1.put3 (.int .i64 0) (.int .i64 0) (.slice none 0 0)
 have hb2:=below_put3 hbw (Nat.le_refl _) (.int .i64 0) (.int .i64 0) (.slice none 0 0)
 have HC2:=Hi hC2
 clear hC hC1 hC2
 go_wp2_with fail
 generalize (((w1.setCell _ _).setCell _ _).setCell _ _)=w2 at HC2 hb2 ⊢
 clear x0 x1 x2 y0 y1 y2
 obtain ⟨x0,x1,x2,_⟩:=HC2.out.at3
 exact bodyPost_ret (v:=.tuple #[.agg #[.int .i64 0,.int .i64 0,.slice none 0 0],.int .i64 v]) (by simp[results,Tryz.f100,go_sem,x0,x1,x2]) rfl ⟨rfl,hb2⟩
theorem refDecode_yes (A:Option Addr) (c n:Nat) (l:List Nat) (block:Int) (w:World) (hn:l.length=n) (hA:Reads w A (uv l)) (hl:W64 l) (hlen:n≤1000000) (hE:sealedN l 2 block=0) :
  Calls Tryz.prog 100 #[.slice A n c,.int .i64 block] w (DecP l block w):=by
 obtain ⟨i0,hi0,hz0,hz1,hz2⟩:=info_parts entry_info
 have h16:n=16:=by
  unfold sealedN at hE
  rw[hn] at hE
  by_cases h:n=16
  ·exact h
  ·rw[if_pos h] at hE;cases hE
 subst h16
 have HS:=Hi (refSealed_any A c 16 l 2 block (w.alloc (.cells #[.int .i64 0,.int .i64 0,.slice none 0 0] 129)) hn (hA.alloc _) hl hlen)
 have HN:=Hi hn
 have HDE:Hid (decE l block=if 7<cntN l∨16777215<sqN l then 24 else
  if okAll l (cntN l)=false then 24 else
  if validN (lvN l) (sqN l) (upto (entAt l) (cntN l))≠0 then 24 else 0):=by
  show _=_
  unfold decE
  rw[if_neg (by omega)]
 have hb0:Below w.heap.size w (w.alloc (.cells #[.int .i64 0,.int .i64 0,.slice none 0 0] 129)):=(Below.refl _ _).alloc (Nat.le_refl _) _
 have hC:=Cs.new w 129 #[.int .i64 0,.int .i64 0,.slice none 0 0]
 rw[hE] at HS
 have hx:=hl.at 0
 obtain ⟨b,off,rfl,hbl,hc⟩:=hA.u (by omega)
 have hc0:=hc 0 (by omega)
 have hc15:=hc 15 (by omega)
 have hl15:=hl.at 15
 rw[Nat.add_zero] at hc0
 have HC:=Hi hc
 have eC:Hid (cntN l=(l[0]?.getD 0) / 256 % 16):=rfl
 have eL:Hid (lvN l=(l[0]?.getD 0) / 16 % 16):=rfl
 have eS:Hid (sqN l=l[15]?.getD 0):=rfl
 obtain ⟨x,ex⟩ :∃x,l[0]?.getD 0=x:=⟨_,rfl⟩
 obtain ⟨z,ez⟩ :∃z,l[15]?.getD 0=z:=⟨_,rfl⟩
 rw[ex] at hc0 hx eC eL
 rw[ez] at hc15 hl15 eS
 clear hE hn hc ex ez
 go_enter Tryz.func100,Tryz.ntmps100
 go_wp2_with fail
 refine HS.out.mono ?_
 rintro e w1 ⟨rfl,hb1⟩
 have hC1:=hC.below hb1 (by simp)
 have hbw1:=hb0.trans (hb1.mono hb0.size)
 have hlt1:w.heap.size<w1.heap.size:=hC1.lt
 have hca:=(hbw1.cell (p:=⟨b,off,none⟩) hbl).trans hc0
 have hb11:b<w1.heap.size:=by omega
 have HCS1:=Hi hC1
 clear hc0 hC hC1 hb0 hb1 HS
 have q1:lvN l<16:=by rw[eL.out];omega
 have q2:cntN l<16:=by rw[eC.out];omega
 have hc15a:=(hbw1.cell (p:=⟨b,off+15,none⟩) hbl).trans hc15
 have hC3:=HCS1.out
 have hEn:sqN l=z:=eS.out
 rw[←hEn] at hc15a hl15
 have b2:bits BinOp.and IntKind.u64 ((x:Int) / 256) 15=((x / 256 % 16:Nat):Int):=and_low (x / 256) 4 (by omega) (by omega)
 have b1:bits BinOp.and IntKind.u64 ((x:Int) / 16) 15=((x / 16 % 16:Nat):Int):=and_low (x / 16) 4 (by omega) (by omega)
 rw[←eC.out] at b2
 rw[←eL.out] at b1
 clear hc15 hEn
 have HP:Hid (∀e w',DecP l block w e w'↔(e=.returned (.tuple #[.agg #[.int .i64 0,.int .i64 0,.slice none 0 0],.int .i64 24])∧decE l block=24∧Below w.heap.size w w')∨
  (∃v,e=.returned (.tuple #[.agg #[.int .i64 (lvN l:Int),.int .i64 (sqN l:Int),v],.int .i64 0])∧decE l block=0∧w'.ownsRow w.heap.size 94 2 v (cntN l) (ev (upto (entAt l) (cntN l)))∧Below w.heap.size w w')):=fun e w'=>Iff.rfl
 generalize cntN l=cn at *
 generalize lvN l=lv at *
 generalize sqN l=sq at *
 obtain ⟨x0,x1,x2,y0,y1,y2⟩:=hC3.at3
 have hbad:=hC3.put3 (.int .i64 0) (.int .i64 0) (.slice none 0 0)
 have hbb:=below_put3 hbw1 (Nat.le_refl _) (.int .i64 0) (.int .i64 0) (.slice none 0 0)
 have HBAD:=Hi hbad
 have HC3:=Hi hC3
 clear hbad hC3
 by_cases hlim:7<cn∨16777215<sq
 ·have HD:Hid (decE l block=24):=by show _=_;rw[HDE.out,if_pos hlim]
  by_cases h7:7<cn
  ·go_wp2_with fail
   generalize (((w1.setCell _ _).setCell _ _).setCell _ _)=w4 at HBAD hbb ⊢
   clear x0 x1 x2 y0 y1 y2
   obtain ⟨x0,x1,x2,_⟩:=HBAD.out.at3
   exact bodyPost_ret (v:=.tuple #[.agg #[.int .i64 0,.int .i64 0,.slice none 0 0],.int .i64 24]) (by simp[results,Tryz.f100,go_sem,x0,x1,x2]) rfl (.inl ⟨rfl,HD.out,hbb⟩)
  ·have hsq:16777215<sq:=by omega
   go_wp2_with fail
   generalize (((w1.setCell _ _).setCell _ _).setCell _ _)=w4 at HBAD hbb ⊢
   clear x0 x1 x2 y0 y1 y2
   obtain ⟨x0,x1,x2,_⟩:=HBAD.out.at3
   exact bodyPost_ret (v:=.tuple #[.agg #[.int .i64 0,.int .i64 0,.slice none 0 0],.int .i64 24]) (by simp[results,Tryz.f100,go_sem,x0,x1,x2]) rfl (.inl ⟨rfl,HD.out,hbb⟩)
 ·have h7:¬7<cn:=by omega
  have hsq:¬16777215<sq:=by omega
  have HD:Hid (decE l block=if okAll l cn=false then 24 else if validN lv sq (upto (entAt l) cn)≠0 then 24 else 0):=by show _=_;rw[HDE.out,if_neg hlim]
  clear hlim HDE HBAD hbb
  have hb1l:b<w1.heap.size:=Nat.lt_of_lt_of_le hbl hbw1.size
  go_wp2_with fail
  go_region
  go_wp2_with fail
  have hI:DecI l cn lv sq w1 0 (w1.alloc (.cells #[.int .i64 (lv:Int),.int .i64 (sq:Int),.slice none 0 0] 129)).drew:=by
   refine ⟨_,Cs.new w1 _ _,?_,((Below.refl _ w1).alloc (Nat.le_refl _) _).drew,by simp⟩
   rw[show min 0 cn=0 by omega]
   exact World.ownsRow_nil _ _ _ _
  have HI:=Hi hI
  clear hI x0 x1 x2 y0 y1 y2 b1 b2 hc15a hca
  generalize (w1.alloc _).drew=w4 at HI ⊢
  go_loopw [9] (fun i wr=>∃k:Nat,k≤7∧i=.int .i64 k∧DecI l cn lv sq w1 k wr∧Hid (∀j,j<k→okAt l cn j=true)) (fun i _=>7 - (intOf i).toNat)
  case atStart=>exact ⟨0,by omega,rfl,HI.out,fun j hj=>absurd hj (by omega)⟩
  case round=>
   obtain ⟨k,hk,rfl,hI,hok⟩:=hrel
   obtain ⟨v,hCs,hrow,hbr,hsz⟩:=hI
   obtain ⟨A1,c1,rfl⟩:=own_form hrow
   have hbwr:=hbw1.trans (hbr.mono hbw1.size)
   have hC0:=HC3.out.below hbr (show w.heap.size<w1.heap.size from HC3.out.lt)
   obtain ⟨x0,x1,x2,y0,y1,y2⟩:=hC0.at3
   have hbad:=hC0.put3 (.int .i64 0) (.int .i64 0) (.slice none 0 0)
   have hbb:=below_put3 hbwr (Nat.le_refl _) (.int .i64 0) (.int .i64 0) (.slice none 0 0)
   have HBAD:=Hi hbad
   clear hbad
   by_cases hlt:k<7
   ·have g1:=(hbwr.cell (p:=⟨b,off+(1+k),none⟩) hbl).trans (HC.out (1+k) (by rw[HN.out];omega))
    have g2:=(hbwr.cell (p:=⟨b,off+(8+k),none⟩) hbl).trans (HC.out (8+k) (by rw[HN.out];omega))
    have hr64:=hl.at (8+k)
    have hp64:=hl.at (1+k)
    have HOK:Hid (okAt l cn k=decide (l[1+k]?.getD 0≤16777215∧(cn≤k→l[1+k]?.getD 0=0∧l[8+k]?.getD 0=0))):=rfl
    have HEA:Hid (entAt l k=(((l[1+k]?.getD 0:Nat):Int),l[8+k]?.getD 0)):=rfl
    obtain ⟨p,ep⟩ :∃p,l[1+k]?.getD 0=p:=⟨_,rfl⟩
    obtain ⟨r,er⟩ :∃r,l[8+k]?.getD 0=r:=⟨_,rfl⟩
    rw[ep] at g1 hp64 HOK HEA
    rw[er] at g2 hr64 HOK HEA
    clear ep er
    have t1:IntKind.i64.wrap (1+(k:Int))=1+(k:Int):=IntWalk.i64_in _ (by omega)
    have t2:IntKind.i64.wrap (8+(k:Int))=8+(k:Int):=IntWalk.i64_in _ (by omega)
    have t3:(1+(k:Int)).toNat=1+k:=by omega
    have t4:(8+(k:Int)).toNat=8+k:=by omega
    have t5:(0:Int)≤1+(k:Int):=by omega
    have t6:(0:Int)≤8+(k:Int):=by omega
    have t7:1+(k:Int)<16:=by omega
    have t8:8+(k:Int)<16:=by omega
    have HCs:=Hi hCs
    have HROW:=Hi hrow
    clear hCs hrow
    have hC05:=Hi hC0
    clear HBAD hbb hC0 x0 x1 x2 y0 y1 y2
    obtain ⟨x0,x1,x2,y0,y1,y2⟩:=hC05.out.at3
    have hbad:=hC05.out.put3 (.int .i64 0) (.int .i64 0) (.slice none 0 0)
    have hbb:=below_put3 hbwr (Nat.le_refl _) (.int .i64 0) (.int .i64 0) (.slice none 0 0)
    have HBAD:=Hi hbad
    clear hbad
    by_cases hokk:okAt l cn k=true
    ·have hp:p≤16777215∧(cn≤k→p=0∧r=0):=by
      have h:=hokk
      rw[HOK.out] at h
      exact of_decide_eq_true h
     have HOKS:Hid (∀j,j<k+1→okAt l cn j=true):=by
      intro j hj
      by_cases e:j=k
      ·rw[e];exact hokk
      ·exact hok.out j (by omega)
     have hp1:¬16777215<p:=by omega
     clear HBAD hbb
     by_cases hck:cn≤k
     ·have hp0:=hp.2 hck
      have z1:((p:Int) != 0)=false:=by simp;omega
      have z2:((r:Int) != 0)=false:=by simp;omega
      have hck2:¬k<cn:=by omega
      clear hp hp0 hokk
      go_wp2_with fail
      go_roundw
      case rel=>
       refine ⟨k+1,by omega,by go_num,⟨_,HCs.out,?_,hbr,hsz⟩,HOKS⟩
       have h:=HROW.out
       rw[show min k cn=cn by omega] at h ⊢
       rw[show min (k+1) cn=cn by omega]
       exact h
      case measure=>simp[intOf];omega
     ·have hck2:k<cn:=by omega
      have hm:min k cn=k:=by omega
      rw[hm] at HCs HROW
      obtain ⟨u0,u1,u2,v0,v1,v2⟩:=HCs.out.at3
      clear hp hokk hm
      have hlb:b<wr.heap.size:=Nat.lt_of_lt_of_le hbl hbwr.size
      have hBn:w1.heap.size<wr.heap.size:=HCs.out.lt
      have t0:IntKind.i64.wrap (p:Int)=(p:Int):=IntWalk.i64_in _ (by omega)
      clear x0 x1 x2 y0 y1 y2 v0 v2
      go_wp2_with fail
      refine wp_region_mix 14 15 (by kernel_rfl) (by kernel_rfl) (fun w'=>w'.cell? ⟨w1.heap.size,2,none⟩=some (.slice A1 k c1)∧w'.cell? ⟨b,off+(1+k),none⟩=some (.int .u64 (p:Int))∧w'.cell? ⟨b,off+(8+k),none⟩=some (.int .u64 (r:Int))) ⟨u2,g1,g2⟩ ?_
      simp only[List.take_succ_cons,List.take_zero,List.drop_succ_cons,List.drop_zero]
      iterate 14
       refine ⟨?_,Or.inl ⟨by rfl,fun W' hS'=>?_⟩,fun _ _ _ h=>h,?_⟩
       rotate_left
       ·obtain ⟨hs1,hs2,hs3⟩:=hS'
        go_simp
        with_reducible rfl
       simp only[Act.put,List.setIfInBounds_toArray,List.set_cons_zero,List.set_cons_succ]
      show wpSeqT _ _ _ _ _ _ _ _ _
      refine wpSeqT_step (fun K hK=>?_)
      go_simp
      refine hK _ _ (fun _=>⟨(World.cell?_alloc_lt _ _ _ hBn).trans u2,(World.cell?_alloc_lt _ _ _ hlb).trans g1,(World.cell?_alloc_lt _ _ _ hlb).trans g2⟩) ?_
      clear hK K
      refine wpSeqT_list _ _ _ _ (by omega) ?_
      refine wpList_append_reads _ (by rfl) _ _ _ (by rfl) (w1.heap.size+1) 94 i0 _ 2 16 Tryz.underlying87 hi0 hz0 hz1 hz2 (by rfl) (by omega) (.slice A1 k c1) k (ev (upto (entAt l) k)) (by rfl) (World.ownsRow.drew (HROW.out.alloc _)) (some ⟨wr.heap.size,0,none⟩) 1 1 [.int .i64 (p:Int),.int .u64 (r:Int)] (by rfl) (by rfl) (Reads.drewN (Reads.new wr _ _) 1) (by simp[Value.oneCell']) (by simp only[maxLen];omega) (by omega) (by simp;omega) ?_
      intro v9 w6 hown6 hg6 hat6
      obtain ⟨A2,c2,rfl⟩:=own_form hown6
      have hg7:=grown_undrew hg6
      obtain ⟨s1,s2,s3,s4,s5⟩:=DecI.put HCs.out HROW.out hown6 hg7 (by omega) hsz
      obtain ⟨r0,r1,r2,r3,r4,r5⟩:=s1.at3
      have S2:=Hi s2
      have S3:=Hi s3
      clear s1 s2 s3 hown6 hg6 hat6 hg7 u0 u1 u2 g1 g2 t1 t2 t3 t4
      go_wp2_with fail
      go_roundw
      case rel=>
       refine ⟨k+1,by omega,by go_num,⟨_,S2.out,?_,hbr.trans s4,s5⟩,HOKS⟩
       have h:=S3.out
       rw[show min (k+1) cn=k+1 by omega,upto_succ,ev_snoc,HEA.out]
       exact h
      case measure=>simp[intOf];omega
    ·have HD2:Hid (decE l block=24):=by
      show _=_
      rw[HD.out,if_pos (okAll_at (by simpa using hokk) hlt)]
     have hpn:¬(p≤16777215∧(cn≤k→p=0∧r=0)):=by
      intro h
      exact hokk (by rw[HOK.out];exact decide_eq_true h)
     by_cases hck:cn≤k
     ·by_cases hp0:p=0
      ·have z1:((p:Int) != 0)=false:=by simp;omega
       have hr0:r≠0:=fun h=>hpn ⟨by omega,fun _=>⟨hp0,h⟩⟩
       have z2:((r:Int) != 0)=true:=by simp;omega
       clear hpn hp0 hr0 hokk
       go_wp2_with fail
       generalize (((wr.setCell _ _).setCell _ _).setCell _ _)=w6 at HBAD hbb ⊢
       clear x0 x1 x2 y0 y1 y2
       obtain ⟨x0,x1,x2,_⟩:=HBAD.out.at3
       exact bodyPost_ret (v:=.tuple #[.agg #[.int .i64 0,.int .i64 0,.slice none 0 0],.int .i64 24]) (by simp[results,Tryz.f100,go_sem,x0,x1,x2]) rfl (.inl ⟨rfl,HD2.out,hbb⟩)
      ·have z1:((p:Int) != 0)=true:=by simp;omega
       clear hpn hp0 hokk
       go_wp2_with fail
       generalize (((wr.setCell _ _).setCell _ _).setCell _ _)=w6 at HBAD hbb ⊢
       clear x0 x1 x2 y0 y1 y2
       obtain ⟨x0,x1,x2,_⟩:=HBAD.out.at3
       exact bodyPost_ret (v:=.tuple #[.agg #[.int .i64 0,.int .i64 0,.slice none 0 0],.int .i64 24]) (by simp[results,Tryz.f100,go_sem,x0,x1,x2]) rfl (.inl ⟨rfl,HD2.out,hbb⟩)
     ·have hp1:16777215<p:=by
       rcases Nat.lt_or_ge 16777215 p with h|h
       ·exact h
       ·exact absurd ⟨h,fun h=>absurd h hck⟩ hpn
      clear hpn hokk
      go_wp2_with fail
      generalize (((wr.setCell _ _).setCell _ _).setCell _ _)=w6 at HBAD hbb ⊢
      clear x0 x1 x2 y0 y1 y2
      obtain ⟨x0,x1,x2,_⟩:=HBAD.out.at3
      exact bodyPost_ret (v:=.tuple #[.agg #[.int .i64 0,.int .i64 0,.slice none 0 0],.int .i64 24]) (by simp[results,Tryz.f100,go_sem,x0,x1,x2]) rfl (.inl ⟨rfl,HD2.out,hbb⟩)
   ·have hk7:k=7:=by omega
    have hm:min k cn=cn:=by omega
    rw[hm] at hrow hCs
    have HALL:Hid (okAll l cn=true):=okAll_of (fun i hi=>hok.out i (by omega))
    have hE64:E64 (upto (entAt l) cn):=upto_E64 l cn hl (fun i hi=>by
     have h:=hok.out i (by omega)
     exact (of_decide_eq_true h).1)
    have HD2:Hid (decE l block=if validN lv sq (upto (entAt l) cn)≠0 then 24 else 0):=by
     show _=_
     rw[HD.out,HALL.out,if_neg (by simp)]
    obtain ⟨u0,u1,u2,v0,v1,v2⟩:=hCs.at3
    have HV:=Hi (refValid_any (lv:Int) (sq:Int) A1 c1 cn (upto (entAt l) cn) wr (upto_length _ _) (Reads.of_own hrow) hE64 (by omega))
    have HCs:=Hi hCs
    have HROW:=Hi hrow
    have HC0:=Hi hC0
    have hltr:w.heap.size<w1.heap.size:=HC3.out.lt
    clear hk7 hCs hrow hC0 HBAD hbb x0 x1 x2 y0 y1 y2
    clear hm
    go_wp2_with fail
    refine HV.out.mono ?_
    rintro e w6 ⟨rfl,hb6⟩
    have hCs6:=HCs.out.below hb6 HCs.out.lt
    have hC6:=HC0.out.below hb6 HC0.out.lt
    have hrow6:=own_keepB HROW.out hb6
    have hbw6:=hbwr.trans (hb6.mono hbwr.size)
    clear u0 u1 u2 v0 v1 v2
    obtain ⟨u0,u1,u2,_⟩:=hCs6.at3
    obtain ⟨x0,x1,x2,y0,y1,y2⟩:=hC6.at3
    have HROW6:=Hi hrow6
    have HC6:=Hi hC6
    clear hrow6 hC6 hCs6
    by_cases hv:validN lv sq (upto (entAt l) cn)=0
    ·have HD3:Hid (decE l block=0):=by show _=_;rw[HD2.out,if_neg (by omega)]
     rw[hv]
     have hgood:=HC6.out.put3 (.int .i64 (lv:Int)) (.int .i64 (sq:Int)) (.slice A1 cn c1)
     have hbb:=below_put3 hbw6 (Nat.le_refl _) (.int .i64 (lv:Int)) (.int .i64 (sq:Int)) (.slice A1 cn c1)
     have HG:=Hi hgood
     have hrow7:(((w6.setCell ⟨w.heap.size,0,none⟩ (.int .i64 (lv:Int))).setCell ⟨w.heap.size,1,none⟩ (.int .i64 (sq:Int))).setCell ⟨w.heap.size,2,none⟩ (.slice A1 cn c1)).ownsRow w.heap.size 94 2 (.slice A1 cn c1) cn (ev (upto (entAt l) cn)):=by
      refine own_lower (HROW6.out.kept (row:=some w.heap.size) ⟨rfl,rfl,rfl,by simp,fun j _ hj=>?_⟩ (.inr (fun e=>HC6.out.not_row HROW6.out (by decide) e.symm))) (by omega)
      rw[Below.heap_setCell _ _ _ j (fun e=>hj (by rw[e])),Below.heap_setCell _ _ _ j (fun e=>hj (by rw[e])),Below.heap_setCell _ _ _ j (fun e=>hj (by rw[e]))]
     have HR7:=Hi hrow7
     clear hrow7 hgood hv
     go_wp2_with fail
     generalize (((w6.setCell _ _).setCell _ _).setCell _ _)=w7 at HG hbb HR7 ⊢
     clear x0 x1 x2 y0 y1 y2
     obtain ⟨x0,x1,x2,_⟩:=HG.out.at3
     exact bodyPost_ret (v:=.tuple #[.agg #[.int .i64 (lv:Int),.int .i64 (sq:Int),.slice A1 cn c1],.int .i64 0]) (by simp[results,Tryz.f100,go_sem,x0,x1,x2]) rfl ((HP.out _ _).2 (.inr ⟨_,rfl,HD3.out,HR7.out,hbb⟩))
    ·have HD3:Hid (decE l block=24):=by show _=_;rw[HD2.out,if_pos hv]
     have hv1:(validN lv sq (upto (entAt l) cn) != 0)=true:=by simpa using hv
     generalize validN lv sq (upto (entAt l) cn)=vn at hv1 ⊢
     have hbad:=HC6.out.put3 (.int .i64 0) (.int .i64 0) (.slice none 0 0)
     have hbb:=below_put3 hbw6 (Nat.le_refl _) (.int .i64 0) (.int .i64 0) (.slice none 0 0)
     have HBAD:=Hi hbad
     clear hbad hv
     go_wp2_with fail
     generalize (((w6.setCell _ _).setCell _ _).setCell _ _)=w7 at HBAD hbb ⊢
     clear x0 x1 x2 y0 y1 y2
     obtain ⟨x0,x1,x2,_⟩:=HBAD.out.at3
     exact bodyPost_ret (v:=.tuple #[.agg #[.int .i64 0,.int .i64 0,.slice none 0 0],.int .i64 24]) (by simp[results,Tryz.f100,go_sem,x0,x1,x2]) rfl (.inl ⟨rfl,HD3.out,hbb⟩)
end
section
open Go.RowKit
def decLv (l:List Nat) (block:Int):Int:=if decE l block=0 then lvN l else 0
def decSq (l:List Nat) (block:Int):Int:=if decE l block=0 then sqN l else 0
def decL (l:List Nat) (block:Int):List (Int × Nat):=if decE l block=0 then upto (entAt l) (cntN l) else []
theorem dec_post {l:List Nat} {block:Int} {w:World} {e:Ending} {w':World} (h:DecP l block w e w') :
  ∃v,e=.returned (.tuple #[.agg #[.int .i64 (decLv l block),.int .i64 (decSq l block),v],.int .i64 (decE l block)])∧w'.ownsRow w.heap.size 94 2 v (decL l block).length (ev (decL l block))∧Below w.heap.size w w':=by
 unfold decLv decSq decL
 rcases h with ⟨rfl,hE,hb⟩| ⟨v,rfl,hE,hown,hb⟩
 ·rw[hE,if_neg (by decide),if_neg (by decide),if_neg (by decide)]
  exact ⟨_,rfl,World.ownsRow_nil _ _ _ _,hb⟩
 ·rw[hE,if_pos rfl,if_pos rfl,if_pos rfl,upto_length]
  exact ⟨_,rfl,hown,hb⟩
theorem decode_all (A:Option Addr) (c n:Nat) (l:List Nat) (block:Int) (w:World) (hn:l.length=n) (hA:Reads w A (uv l)) (hl:W64 l) (hlen:n≤1000000) :
  Calls Tryz.prog 140 #[.slice A n c,.int .i64 block] w fun e w'=>∃v,e=.returned (.tuple #[.agg #[.int .i64 (decLv l block),.int .i64 (decSq l block),v],.int .i64 (decE l block)])∧w'.ownsRow w.heap.size 94 2 v (decL l block).length (ev (decL l block))∧Below w.heap.size w w':=by
 by_cases hE:sealedN l 2 block=0
 ·exact (decode_yes A c n l block w hn hA hl hlen hE).mono fun e w' h=>dec_post h
 ·have hd:decE l block=sealedN l 2 block:=by unfold decE;rw[if_pos hE]
  refine (decode_no A c n l block w hn hA hl hlen hE).mono ?_
  rintro e w' ⟨rfl,hb⟩
  unfold decLv decSq decL
  rw[hd,if_neg hE,if_neg hE,if_neg hE]
  exact ⟨_,rfl,World.ownsRow_nil _ _ _ _,hb⟩
theorem refDecode_all (A:Option Addr) (c n:Nat) (l:List Nat) (block:Int) (w:World) (hn:l.length=n) (hA:Reads w A (uv l)) (hl:W64 l) (hlen:n≤1000000) :
  Calls Tryz.prog 100 #[.slice A n c,.int .i64 block] w fun e w'=>∃v,e=.returned (.tuple #[.agg #[.int .i64 (decLv l block),.int .i64 (decSq l block),v],.int .i64 (decE l block)])∧w'.ownsRow w.heap.size 94 2 v (decL l block).length (ev (decL l block))∧Below w.heap.size w w':=by
 by_cases hE:sealedN l 2 block=0
 ·exact (refDecode_yes A c n l block w hn hA hl hlen hE).mono fun e w' h=>dec_post h
 ·have hd:decE l block=sealedN l 2 block:=by unfold decE;rw[if_pos hE]
  refine (refDecode_no A c n l block w hn hA hl hlen hE).mono ?_
  rintro e w' ⟨rfl,hb⟩
  unfold decLv decSq decL
  rw[hd,if_neg hE,if_neg hE,if_neg hE]
  exact ⟨_,rfl,World.ownsRow_nil _ _ _ _,hb⟩
end
section
open Go.RowKit Go.Shelf
attribute [local go_sem] Oper.semAt_some
def findTo (l:List (Int × Nat)) (key:Int):Nat→Int
 |0=>-1
 |k+1=>if (l[k]?.getD (0,0)).1≤key then (k:Int) else findTo l key k
def findN (l:List (Int × Nat)) (key:Int):Int:=findTo l key l.length
def exactN (l:List (Int × Nat)) (key:Int):Bool:=decide (0≤findN l key∧(l[(findN l key).toNat]?.getD (0,0)).1=key)
theorem findTo_bd (l:List (Int × Nat)) (key:Int) (k:Nat): -1≤findTo l key k∧findTo l key k<k:=by
 induction k with
 |zero=>simp[findTo]
 |succ k ih=>
  unfold findTo
  split <;> omega
theorem Cs.at2 {w:World} {g:Nat} {t:TypeId} {a b:Value} (h:Cs w g t #[a,b]):w.cell? ⟨g,0,none⟩=some a∧w.cell? ⟨g,1,none⟩=some b∧w.frozen? ⟨g,0,none⟩=false∧w.frozen? ⟨g,1,none⟩=false:=
 ⟨h.cell 0,h.cell 1,h.free 0,h.free 1⟩
end
section
open Go.RowKit
theorem refFind_any (lv sq key:Int) (A:Option Addr) (c n:Nat) (l:List (Int × Nat)) (w:World) (hn:l.length=n) (hA:Reads w A (ev l)) (hlen:n≤1000000) :
  Calls Tryz.prog 125 #[.agg #[.int .i64 lv,.int .i64 sq,.slice A n c],.int .i64 key] w fun e w'=>e=.returned (.tuple #[.int .i64 (findN l key),.bool (exactN l key)])∧Below w.heap.size w w':=by
 have hbx:Below w.heap.size w (w.alloc (.cells #[.int .i64 lv,.int .i64 sq,.slice A n c] 129)):=(Below.refl _ _).alloc (Nat.le_refl _) _
 obtain ⟨c0,c1,c2⟩:=box_cells (w:=w) (lv:=lv) (sq:=sq) (A:=A) (n:=n) (c:=c)
 have HA:=Hi (hA.keep hbx)
 have HL:=Hi hn
 have hF:Hid (findN l key=findTo l key n):=by show _=_;rw[←hn];rfl
 clear hA hn c0 c1
 go_enter Tryz.func125,Tryz.ntmps125
 go_wp2_with fail
 generalize (w.alloc _)=w1 at hbx c2 HA ⊢
 go_loop [6,7] (fun t i=>∃(k:Nat) (f:Int),k≤n∧i=.int .i64 k∧t=.int .i64 f∧Hid (f=findTo l key k)) (fun _ i=>n - (intOf i).toNat)
 case atStart=>exact ⟨0,-1,Nat.zero_le _,rfl,rfl,rfl⟩
 case round=>
  obtain ⟨k,f,hk,rfl,rfl,hf⟩:=hrel
  by_cases hlt:k<n
  ·obtain ⟨b,off,rfl,hbl,hc⟩:=HA.out.e (by rw[HL.out];omega)
   obtain ⟨d1,d2⟩:=hc k (by rw[HL.out];omega)
   have hs:findTo l key (k+1)=if (l[k]?.getD (0,0)).1≤key then (k:Int) else findTo l key k:=rfl
   have HS:=Hi hs
   obtain ⟨x,ex⟩ :∃x,(l[k]?.getD (0,0)).1=x:=⟨_,rfl⟩
   rw[ex] at d1 HS
   clear hc ex hs d2
   by_cases hx:x≤key
   ·have HS2:Hid ((k:Int)=findTo l key (k+1)):=by show _=_;rw[HS.out,if_pos hx]
    go_wp2_with fail
    go_round
    case rel=>exact ⟨k+1,k,by omega,by go_num,rfl,HS2⟩
    case measure=>simp[intOf];omega
   ·have HS2:Hid (f=findTo l key (k+1)):=by show _=_;rw[HS.out,if_neg hx];exact hf.out
    go_wp2_with fail
    go_round
    case rel=>exact ⟨k+1,f,by omega,by go_num,rfl,HS2⟩
    case measure=>simp[intOf];omega
  ·have hkn:k=n:=by omega
   have hbd:=findTo_bd l key k
   have HF:Hid (findN l key=f):=by show _=_;rw[hF.out,←hkn,hf.out]
   rw[←hf.out] at hbd
   by_cases h0:0≤f
   ·obtain ⟨j,rfl⟩ :∃j:Nat,f=(j:Int):=⟨f.toNat,by omega⟩
    have hj:j<n:=by omega
    obtain ⟨b,off,rfl,hbl,hc⟩:=HA.out.e (by rw[HL.out];omega)
    obtain ⟨d1,d2⟩:=hc j (by rw[HL.out];omega)
    have HX:Hid (exactN l key=((l[j]?.getD (0,0)).1 == key)):=by
     show _=_
     unfold exactN
     rw[HF.out,Int.toNat_natCast,Bool.eq_iff_iff]
     simp
    obtain ⟨x,ex⟩ :∃x,(l[j]?.getD (0,0)).1=x:=⟨_,rfl⟩
    rw[ex] at d1 HX
    have g1:(0:Int)≤(j:Int):=by omega
    have g2:(j:Int)<(n:Int):=by omega
    have g3:(j:Int).toNat=j:=by omega
    clear hc ex d2 hkn
    go_wp2_with fail
    go_quiet (fail)
    go_wp2_with fail
    go_ret2
    exact ⟨by rw[HF.out,HX.out];rfl,below_drewN hbx _⟩
   ·have hd:decide (0≤f)=false:=by simpa using h0
    have HX:Hid (exactN l key=false):=by show _=_;unfold exactN;rw[HF.out];simp;omega
    clear hkn
    go_wp2_with fail
    go_quiet (fail)
    go_wp2_with fail
    go_ret2
    exact ⟨by rw[HF.out,HX.out];rfl,below_drewN hbx _⟩
section
variable {P:Program}
theorem run_copyS (w:World) (dT sT ty elem:TypeId) (size:Nat) (g o dLen dCap:Nat) (a:Addr) (sLen sCap:Nat) (cur:List Value) (t:TypeId) (cs:List Value)
  (hu:P.underlying dT=some (.slice elem)) (hs:(P.info? elem).map (·.size)=some size)
  (hg:Cs w g t cur.toArray) (hn:cs.length=Nat.min sLen dLen * size)
  (hsrc:∀j v,cs[j]? =some v→w.cell? (a.add j)=some v) (hfit:o+cs.length≤cur.length) (h1:∀v∈cs,v.oneCell'=true) :
  (Builtin.copy_ #[dT,sT] ty #[.slice (some ⟨g,o,none⟩) dLen dCap,.slice (some a) sLen sCap]).run P w =
   .ok (goInt (Nat.min sLen dLen)) (w.setRow g (splice cur o cs).toArray):=by
 have hl:=run_loadCells_list (P:=P) w a cs hsrc
 have hst:=run_storeCells_at P g o t cs 0 cur.toArray w hg (by simpa using hfit) h1
 cases hq:P.info? elem with
 |none=>simp[hq] at hs
 |some i=>
  have hi:i.size=size:=by simpa[hq] using hs
  rw[hn] at hl
  simp[Builtin.copy_,run_underlying hu,Builtin.lenOf,Builtin.firstCells,sizeOf,typeInfo,hq,hi,hl,hst,splice]
end
end
section
open Go.RowKit
def insN (l:List (Int × Nat)) (i:Nat) (x:Int × Nat):List (Int × Nat):=l.take i++x :: l.drop i
theorem own_make {w:World} {base n g cap:Nat} {e:TypeId} {size:Nat} {xs cur:List Value} (hc:Cs w g e cur.toArray) (hb:base≤g) (h1:n≤cap) (h2:cap≤maxLen) (hs:cur.length=cap * size) (ht:cur.take (n * size)=xs) (hx:xs.length=n * size) :
  w.ownsRow base e size (.slice (some ⟨g,0,none⟩) n cap) n xs:=
 ⟨hx,.inr ⟨g,cap,cur.toArray,rfl,hb,hc,h1,h2,by simpa using hs,by simpa using ht⟩⟩
theorem ev_take (l:List (Int × Nat)) (i:Nat):(ev l).take (i * 2)=ev (l.take i):=by
 induction l generalizing i with
 |nil=>simp[ev]
 |cons p r ih=>
  cases i with
  |zero=>simp[ev]
  |succ i=>
   have:=ih i
   simp only[ev,List.flatMap_cons,List.take_succ_cons] at this ⊢
   rw[show (i+1) * 2=i * 2+1+1 by omega,List.cons_append,List.cons_append,List.nil_append,List.take_succ_cons,List.take_succ_cons,this]
   rfl
theorem ev_drop (l:List (Int × Nat)) (i:Nat):(ev l).drop (i * 2)=ev (l.drop i):=by
 induction l generalizing i with
 |nil=>simp[ev]
 |cons p r ih=>
  cases i with
  |zero=>simp[ev]
  |succ i=>
   have:=ih i
   simp only[ev,List.flatMap_cons,List.drop_succ_cons] at this ⊢
   rw[show (i+1) * 2=i * 2+1+1 by omega,List.cons_append,List.cons_append,List.nil_append,List.drop_succ_cons,List.drop_succ_cons,this]
end
section
open Go.RowKit
end
section
open Go.RowKit
section
variable {P:Program}
end
def delN (l:List (Int × Nat)) (i:Nat):List (Int × Nat):=l.take i++l.drop (i+1)
end
section
open Go.RowKit
theorem ev_set (l:List (Int × Nat)) (i y:Nat) (h:i<l.length):(ev l).set (i * 2+1) (.int .u64 (y:Int))=ev (l.set i ((l[i]?.getD (0,0)).1,y)):=by
 induction l generalizing i with
 |nil=>simp at h
 |cons p r ih=>
  cases i with
  |zero=>simp[ev]
  |succ i=>
   have:=ih i (by simpa using h)
   simp only[ev,List.flatMap_cons,List.set_cons_succ,List.getElem?_cons_succ] at this ⊢
   rw[←this,show (i+1) * 2+1=i * 2+1+1+1 by omega]
   rfl
def putE (l:List (Int × Nat)) (key:Int):Int:=if 8<l.length then 4 else if key<0∨16777215<key then 1 else 0
def putN (l:List (Int × Nat)) (key:Int) (value:Nat):List (Int × Nat):=if exactN l key=true then l.set (findN l key).toNat (key,value) else insN l (findN l key+1).toNat (key,value)
theorem Cs.far {w:World} {g B i:Nat} {t:TypeId} {cs:Array Value} (h:Cs w g t cs) (hne:g≠B) (u:Value):Cs (w.setCell ⟨B,i,none⟩ u) g t cs:=(Below.heap_setCell _ _ _ _ hne).trans h
theorem own_put3 {w:World} {B base n:Nat} {cs:Array Value} {v x y z:Value} {xs:List Value} (hc:Cs w B 129 cs) (hr:w.ownsRow base 94 2 v n xs) :
  (((w.setCell ⟨B,0,none⟩ x).setCell ⟨B,1,none⟩ y).setCell ⟨B,2,none⟩ z).ownsRow base 94 2 v n xs:=by
 refine hr.kept (row:=some B) ⟨rfl,rfl,rfl,by simp,fun j _ hj=>?_⟩ (.inr (fun e=>hc.not_row hr (by decide) e.symm))
 rw[Below.heap_setCell _ _ _ j (fun e=>hj (by rw[e])),Below.heap_setCell _ _ _ j (fun e=>hj (by rw[e])),Below.heap_setCell _ _ _ j (fun e=>hj (by rw[e]))]
end
section
open Go.RowKit
def remE (l:List (Int × Nat)) (i:Int):Int:=if i<0∨(l.length:Int)≤i then 1 else 0
end
section
open Go.RowKit
end
section
open Go.RowKit
end
section
open Go.RowKit
structure Part where
 A:Option Addr
 c:Nat
 l:List (Int × Nat)
def Part.v (p:Part):Value:=.slice p.A p.l.length p.c
def flat (ps:List Part):List (Int × Nat):=ps.flatMap Part.l
theorem flat_snoc (ps:List Part) (p:Part):flat (ps++ [p])=flat ps++p.l:=by simp[flat]
theorem flat_take (ps:List Part) (k:Nat) (h:k<ps.length):flat (ps.take (k+1))=flat (ps.take k)++(ps[k]).l:=by
 rw[List.take_succ_eq_append_getElem h,flat_snoc]
theorem app_field {w5 w6:World} {Bn base n:Nat} {a b v v1:Value} {xs ys:List Value} {m:Nat}
  (hc:Cs w5 Bn 129 #[a,b,v]) (hr:w5.ownsRow base 94 2 v n xs) (h1:w6.ownsRow base 94 2 v1 m ys) (hg:w5.grownBy w6 v.ownBlock) (hB:Bn<base) (hs:base≤w5.heap.size) :
  Cs w6 Bn 129 #[a,b,v]∧Cs (w6.setCell ⟨Bn,2,none⟩ v1) Bn 129 #[a,b,v1]∧(w6.setCell ⟨Bn,2,none⟩ v1).ownsRow base 94 2 v1 m ys∧Below Bn w5 (w6.setCell ⟨Bn,2,none⟩ v1)∧base≤(w6.setCell ⟨Bn,2,none⟩ v1).heap.size:=by
 have hc6:Cs w6 Bn 129 #[a,b,v]:=hc.grown hg (hc.not_row hr (by decide))
 have hbl:Below base w5 w6:=(Below.refl _ w5).grown hg hs (own_base hr)
 refine ⟨hc6,hc6.set3,h1.kept (row:=some Bn) ⟨rfl,rfl,rfl,by simp,fun j _ hj=>Below.heap_setCell _ _ _ j (fun e=>hj (by rw[e]))⟩ (.inr (fun e=>hc6.not_row h1 (by decide) e.symm)),(hbl.mono (Nat.le_of_lt hB)).setCell (p:=⟨Bn,2,none⟩) (Nat.le_refl _) _,?_⟩
 have:=hbl.size
 simp
 omega
theorem with_any (lv sq:Int) (A0:Option Addr) (n0 c0 gb cb m:Nat) (ps:List Part) (w:World) (hm:ps.length=m) (hgb:Cs w gb 87 (ps.map Part.v).toArray) (hps:∀p∈ps,Reads w p.A (ev p.l)) (hml:m≤10) (hlen:(flat ps).length≤100000) :
  Calls Tryz.prog 145 #[.agg #[.int .i64 lv,.int .i64 sq,.slice A0 n0 c0],.slice (some ⟨gb,0,none⟩) m cb] w fun e w'=>∃v,e=.returned (.agg #[.int .i64 lv,.int .i64 sq,v])∧w'.ownsRow w.heap.size 94 2 v (flat ps).length (ev (flat ps))∧Below w.heap.size w w':=by
 obtain ⟨i0,hi0,hz0,hz1,hz2⟩:=info_parts entry_info
 have HM:=Hi hm
 have HP:=Hi hps
 have HG:=Hi hgb
 have hgl:=hgb.lt
 obtain ⟨W,hW⟩ :∃W,W=((w.alloc (.cells #[.int .i64 lv,.int .i64 sq,.slice A0 n0 c0] 129)).alloc (.cells #[.int .i64 0,.int .i64 0,.slice none 0 0] 129)).alloc (.cells #[.int .i64 lv,.int .i64 sq,.slice none 0 0] 129):=⟨_,rfl⟩
 have C1:Cs W (w.heap.size+1) 129 #[.int .i64 0,.int .i64 0,.slice none 0 0]:=by
  rw[hW];have:=(Cs.new (w.alloc (.cells #[.int .i64 lv,.int .i64 sq,.slice A0 n0 c0] 129)) 129 #[.int .i64 0,.int .i64 0,.slice none 0 0]).alloc (.cells #[.int .i64 lv,.int .i64 sq,.slice none 0 0] 129)
  rw[World.size_alloc] at this;exact this
 have C2:Cs W (w.heap.size+1+1) 129 #[.int .i64 lv,.int .i64 sq,.slice none 0 0]:=by
  rw[hW];have:=Cs.new ((w.alloc (.cells #[.int .i64 lv,.int .i64 sq,.slice A0 n0 c0] 129)).alloc (.cells #[.int .i64 0,.int .i64 0,.slice none 0 0] 129)) 129 #[.int .i64 lv,.int .i64 sq,.slice none 0 0]
  rw[World.size_alloc,World.size_alloc] at this;exact this
 have hB:Below w.heap.size w W:=by
  rw[hW];exact ((((Below.refl _ w).alloc (Nat.le_refl _) _).alloc (by simp) _).alloc (by simp;omega) _)
 have hszW:W.heap.size=w.heap.size+1+1+1:=by rw[hW];simp
 have HW:=Hi hW
 have K1:=Hi C1
 have K2:=Hi C2
 have hs1:w.heap.size+1+1<W.heap.size:=by omega
 have hs2:W.heap.size≤w.heap.size+1+1+1:=by omega
 clear hm hps hgb hW C1 C2 hszW
 go_enter Tryz.func145,Tryz.ntmps145
 go_wp2_with fail
 rw[←HW.out]
 clear HW
 go_loopw [6] (fun i wr=>∃(k:Nat) (v:Value),k≤m∧i=.int .i64 k∧Cs wr (w.heap.size+1+1) 129 #[.int .i64 lv,.int .i64 sq,v]∧wr.ownsRow W.heap.size 94 2 v (flat (ps.take k)).length (ev (flat (ps.take k)))∧Below (w.heap.size+1+1) W wr∧W.heap.size≤wr.heap.size) (fun i _=>m - (intOf i).toNat)
 case atStart=>exact ⟨0,_,Nat.zero_le _,rfl,K2.out,World.ownsRow_nil _ _ _ _,Below.refl _ _,Nat.le_refl _⟩
 case round=>
  obtain ⟨k,v,hk,rfl,hc,hrow,hbr,hsz⟩:=hrel
  obtain ⟨A1,c1,rfl⟩:=own_form hrow
  obtain ⟨x0,x1,x2,y0,y1,y2⟩:=hc.at3
  have hbwr:=hB.trans (hbr.mono (show w.heap.size≤w.heap.size+1+1 by omega))
  by_cases hlt:k<m
  ·have hkl:k<ps.length:=by rw[HM.out];exact hlt
   have hfl:=flat_take ps k hkl
   have hpm:=HP.out _ (List.getElem_mem hkl)
   have hcell:=(HG.out.below hbwr hgl).cell k
   rw[List.getElem?_toArray,List.getElem?_map,List.getElem?_eq_getElem hkl] at hcell
   have hlen2:(flat (ps.take (k+1))).length≤(flat ps).length:=by
    have:flat ps=flat (ps.take (k+1))++flat (ps.drop (k+1)):=by unfold flat;rw[←List.flatMap_append,List.take_append_drop]
    rw[this,List.length_append];omega
   rw[hfl,List.length_append] at hlen2
   obtain ⟨p,hp⟩ :∃p,ps[k]=p:=⟨_,rfl⟩
   rw[hp] at hfl hpm hcell hlen2
   have hcell2:wr.cell? ⟨gb,k,none⟩=some (.slice p.A p.l.length p.c):=hcell
   have hrd:=hpm.keep hbwr
   have HFL:=Hi hfl
   have HRD:=Hi hrd
   have HROW:=Hi hrow
   have HC:=Hi hc
   obtain ⟨F,hF⟩ :∃F,(flat (ps.take k)).length=F:=⟨_,rfl⟩
   rw[hF] at hlen2 HC HROW x2
   have HF:=Hi hF
   have ex:ev (flat (ps.take (k+1)))=ev (flat (ps.take k))++ev p.l:=by rw[hfl,ev_append]
   have EX:=Hi ex
   clear hfl hcell hpm hp hrow hc hrd ex
   clear hF
   go_wp2_with fail
   go_still_tail 6,(by kernel_rfl)
   change wpList _ _ _ _ _ wr.drew
   refine wpList_append_reads _ (by rfl) (.tmp 19) (.tmp 23) _ (by rfl) W.heap.size 94 i0 _ 2 16 Tryz.underlying87 hi0 hz0 hz1 hz2 (by rfl) (by omega) (.slice A1 F c1) F (ev (flat (ps.take k))) (by rfl) (World.ownsRow.drew HROW.out) p.A p.l.length p.c (ev p.l) (by rfl) (ev_length _) (show Reads wr.drew _ _ from HRD.out) (ev_one _) (by simp only[maxLen];omega) (by omega) hsz ?_
   intro v1 w6 hown6 hg6 hat6
   obtain ⟨A2,c2,rfl⟩:=own_form hown6
   have hg7:=grown_undrew hg6
   obtain ⟨s1,s2,s3,s4,s5⟩:=app_field HC.out HROW.out hown6 hg7 (by omega) hsz
   obtain ⟨r0,r1,r2,r3,r4,r5⟩:=s1.at3
   have S2:=Hi s2
   have S3:=Hi s3
   clear s1 s2 s3 hown6 hg6 hat6 hg7 x0 x1 x2 y0 y1 y2 hcell2
   go_wp2_with fail
   go_roundw
   case rel=>
    refine ⟨k+1,_,by omega,by go_num,S2.out,?_,hbr.trans s4,s5⟩
    rw[EX.out,HFL.out,List.length_append,HF.out]
    exact S3.out
   case measure=>simp[intOf];omega
  ·have hkm:k=m:=by omega
   have ht:ps.take k=ps:=List.take_of_length_le (by rw[HM.out];omega)
   rw[ht] at hrow hc x2
   have hC1:=K1.out.below hbr (by omega)
   obtain ⟨d0,d1,d2,d3,d4,d5⟩:=hC1.at3
   have hq:=Hi (hC1.put3 (.int .i64 lv) (.int .i64 sq) (.slice A1 (flat ps).length c1))
   have ho:=Hi (own_put3 (x:=.int .i64 lv) (y:=.int .i64 sq) (z:=.slice A1 (flat ps).length c1) hC1 hrow)
   have hb:=below_put3 hbwr (show w.heap.size≤w.heap.size+1 by omega) (.int .i64 lv) (.int .i64 sq) (.slice A1 (flat ps).length c1)
   have hneq:w.heap.size+1≠w.heap.size+1+1:=by omega
   clear hkm ht hrow hc hC1
   generalize hFF:(flat ps).length=F at *
   have HFF:=Hi hFF
   clear hFF
   go_wp2_with fail
   generalize (((wr.setCell _ _).setCell _ _).setCell _ _)=w8 at hq ho hb ⊢
   clear x0 x1 x2 y0 y1 y2 d0 d1 d2 d3 d4 d5
   obtain ⟨x0,x1,x2,_⟩:=hq.out.at3
   exact bodyPost_ret (v:=.agg #[.int .i64 lv,.int .i64 sq,.slice A1 F c1]) (by simp[results,Tryz.f145,go_sem,x0,x1,x2]) rfl ⟨_,rfl,by rw[HFF.out];exact own_lower ho.out (show w.heap.size≤W.heap.size by omega),hb⟩
end
end Go.Proofs.YtplhdjdkobddnaaGreat
