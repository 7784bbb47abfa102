/- StJ -/
import Derived.Test.YtplhdjdkobddnaaGreatTr19
set_option linter.unusedVariables false
set_option maxRecDepth 100000
set_option maxHeartbeats 40000000
namespace Go.Proofs.YtplhdjdkobddnaaGreat
section
open Go.RowKit
attribute [local go_sem] Oper.semAt_some
section
variable {W W':World} {F F':Nat→Prop} {P:SP} {S:St} {ws:List Nat} {G:Nat→Prop}
theorem bump_succ {k:Bool} {lv:Nat} {l:List (Int × Nat)} {i:Nat} (hi:i<l.length) (S:St) :
  bumpL k lv (l.take (i+1)) S=if lv=0 then (if k=true then { bumpL k lv (l.take i) S with da:=(bumpL k lv (l.take i) S).da.inc (dOf (l[i]?.getD (0,0)).2) } else bumpL k lv (l.take i) S) else { bumpL k lv (l.take i) S with bl:=(bumpL k lv (l.take i) S).bl.inc (l[i]?.getD (0,0)).2 }:=by
 have e1:l.take (i+1)=l.take i++ [l[i]?.getD (0,0)]:=by rw[List.take_succ_eq_append_getElem hi,getD_mem hi]
 unfold bumpL
 rw[e1]
 split
 ·split
  ·rw[List.map_append,List.map_singleton,incs_snoc]
  ·rfl
 ·rw[List.map_append,List.map_singleton,incs_snoc]
end
theorem rtouch_shared (W:World) (F:Nat→Prop) (P:SP) (S:St) (ws:List Nat) (h:StIn W F P S ws) (b:Nat) (n:Nd) (A:Option Addr) (len c0:Nat) (k:Bool) (hl:n.es.length=len) (hb:b<S.bl.now.length) (c:Nat) (hp:S.bl.pick=some c)
  (hv:NdV W (OutF F P) n (.agg #[.int .i64 (n.lv:Int),.int .i64 (n.sq:Int),.slice A len c0])) (h2:1<S.bl.count b) (hok:TouchOk S b n k) (hdec:(bumpL k n.lv n.es (({ S with bl:=S.bl.setN c 1 }:St).put c n)).bl.decE b=0) :
  Calls Tryz.prog 144 #[.pointer (some ⟨P.s,0,none⟩),.int .i64 (b:Int),.agg #[.int .i64 (n.lv:Int),.int .i64 (n.sq:Int),.slice A len c0],.bool k] W fun e w'=>e=.returned (.tuple #[.int .i64 (c:Int),.int .i64 0])∧StIn w' F P { bumpL k n.lv n.es (({ S with bl:=S.bl.setN c 1 }:St).put c n) with bl:=(bumpL k n.lv n.es (({ S with bl:=S.bl.setN c 1 }:St).put c n)).bl.dec b } ws∧Fr P.has W w':=by
 have hbx:Below W.heap.size W (W.alloc (.cells #[.int .i64 (n.lv:Int),.int .i64 (n.sq:Int),.slice A len c0] 129)):=(Below.refl _ W).alloc (Nat.le_refl _) _
 have hx0:=box_cells (w:=W) (lv:=(n.lv:Int)) (sq:=(n.sq:Int)) (A:=A) (n:=len) (c:=c0)
 have hltP:=Hi h.lt
 have H:=Hi (h.keep hbx)
 have HV:=Hi (hv.fr (Fr.of_below (G:=fun _=>False) hbx) (fun _ _ q=>q))
 have HL:=Hi hl
 have HOK:=Hi hok
 have HDE:=Hi hdec
 obtain ⟨p1,p2,p3⟩:=Mp.pick_some hp
 have hbc:b≠c:=by rintro rfl;omega
 have hlen8:len≤8:=by rw[←hl];exact hv.bd.2.2
 clear h hv hl hok hdec
 have hVs:(W.alloc (.cells #[.int .i64 (n.lv:Int),.int .i64 (n.sq:Int),.slice A len c0] 129)).heap.size=W.heap.size+1:=by simp
 go_enter Tryz.func144,Tryz.ntmps144
 generalize hV:(W.alloc (.cells #[.int .i64 (n.lv:Int),.int .i64 (n.sq:Int),.slice A len c0] 129))=V at hbx hx0 H HV hVs
 have x1:V.cell? ⟨P.s,1,none⟩=some (.pointer (some ⟨P.b.p,0,none⟩)):=H.out.cs.cell 1
 obtain ⟨y0,y1,y2⟩:=hx0
 have hw:=rwas_any H.out.mb b
 have hc:=rcount_any H.out.mb b
 obtain ⟨cc,hcc⟩ :∃cc,S.bl.count b=cc:=⟨_,rfl⟩
 rw[hcc] at hc h2
 obtain ⟨ww,hww⟩ :∃ww,S.bl.was b=ww:=⟨_,rfl⟩
 rw[hww] at hw
 have d1:¬(cc:Int)=1:=by omega
 have d2:(1:Int)<(cc:Int):=by omega
 have HCC:=Hi hcc
 clear hcc hww
 go_wp2_with (rw[hV])
 refine hw.mono ?_
 rintro e w1 ⟨rfl,rfl⟩
 by_cases dw:(ww:Int)=0
 all_goals (go_wp2_with fail)
 all_goals (first|(refine hc.mono ?_;rintro e w1 ⟨rfl,rfl⟩;go_wp2_with fail)|skip)
 all_goals
  refine (rfresh_any V F P S ws H.out c hp n A len c0 HL.out HV.out).mono ?_
  rintro e w2 ⟨rfl,h3,f3⟩
  have hm3:=h3.mb
  have x3:w2.cell? ⟨P.s,1,none⟩=some (.pointer (some ⟨P.b.p,0,none⟩)):=h3.cs.cell 1
  have H3:=Hi h3
  have F3:=Hi f3
  have hc3:=rcount_any hm3 b
  have e3:Mp.count (({ S with bl:=S.bl.setN c 1 }:St).put c n).bl b=cc:=by
   show (S.bl.setN c 1).count b=cc
   rw[Mp.count_setN p1,if_neg hbc]
   exact HCC.out
  rw[e3] at hc3
  have hnP:¬P.has W.heap.size:=fun q=>by have:=hltP.out _ q;omega
  have t0:=(f3.cell (b:=W.heap.size) (i:=0) (by omega) hnP).trans y0
  have t2:=(f3.cell (b:=W.heap.size) (i:=2) (by omega) hnP).trans y2
  have HV3:=Hi (HV.out.fr f3 (fun j hj q=>hj.2 q))
  clear h3 f3 y0 y1 y2 x1 hc hw
  go_wp2_with fail
  refine hc3.mono ?_
  rintro e w1 ⟨rfl,rfl⟩
  clear hc3 hm3
  go_wp2_with fail
  have hw2:W.heap.size<w2.heap.size:=by have:=F3.out.size;omega
  obtain ⟨S3,hS3⟩ :∃S3,(({ S with bl:=S.bl.setN c 1 }:St).put c n)=S3:=⟨_,rfl⟩
  rw[hS3] at H3 e3
  have HS3:=Hi hS3
  go_loopw [11,12] (fun ee ii wr=>∃i:Nat,i≤len∧ii=.int .i64 i∧ee=.int .i64 0∧Hid (StIn wr F P (bumpL k n.lv (n.es.take i) S3) ws)∧Hid (Fr P.has w2 wr)) (fun _ ii _=>len - (intOf ii).toNat)
  case atStart=>exact ⟨0,Nat.zero_le _,rfl,rfl,by show StIn _ _ _ _ _;have:=H3.out;unfold bumpL;simp only[List.take_zero,List.map_nil];split;split;exact this;exact this;exact this,Fr.refl _ _⟩
  case round=>
   obtain ⟨i,hi,rfl,rfl,hst,hfr⟩:=hrel
   have b0:=(hfr.out.cell (b:=W.heap.size) (i:=0) hw2 hnP).trans t0
   have b2:=(hfr.out.cell (b:=W.heap.size) (i:=2) hw2 hnP).trans t2
   have xs1:wr.cell? ⟨P.s,1,none⟩=some (.pointer (some ⟨P.b.p,0,none⟩)):=hst.out.cs.cell 1
   have xs2:wr.cell? ⟨P.s,2,none⟩=some (.pointer (some ⟨P.d.p,0,none⟩)):=hst.out.cs.cell 2
   obtain ⟨l,hlv⟩ :∃l,n.lv=l:=⟨_,rfl⟩
   rw[hlv] at b0
   have HLV:=Hi hlv
   clear hlv
   by_cases hlt:i<len
   ·have hnd:=HV3.out.fr hfr.out (fun j hj q=>hj.2 q)
    obtain ⟨-,-,-,hrd,-,-,hE,-⟩:=hnd.parts
    obtain ⟨ab,ao,rfl,hal,hcl⟩:=hrd.e (by rw[HL.out];omega)
    have hcv:=(hcl i (by rw[HL.out];exact hlt)).2
    have hvb:=(hE.at i).2.2
    have hsucc:=bump_succ (k:=k) (lv:=n.lv) (l:=n.es) (i:=i) (by rw[HL.out];exact hlt) S3
    obtain ⟨vv,hvv⟩ :∃vv,(n.es[i]?.getD (0,0)).2=vv:=⟨_,rfl⟩
    rw[hvv] at hcv hvb hsucc
    have hg:n.es[i]? =some (n.es[i]?.getD (0,0)):=by rw[List.getElem?_eq_getElem (by rw[HL.out];exact hlt)];rfl
    have hmap1:(n.es.map Prod.snd)[i]? =some vv:=by rw[List.getElem?_map,hg,←hvv];rfl
    have hmap2:(n.es.map (fun e=>dOf e.2))[i]? =some (dOf vv):=by rw[List.getElem?_map,hg,←hvv];rfl
    clear hcl hnd hrd hE hg
    by_cases hl0:l=0
    ·subst hl0
     rw[HLV.out,if_pos rfl] at hsucc
     have HSU:=Hi hsucc
     clear hsucc
     cases k
     ·have HN:Hid (StIn wr F P (bumpL false n.lv (n.es.take (i+1)) S3) ws):=by
       show StIn _ _ _ _ _
       rw[HLV.out,HSU.out]
       have:=hst.out
       rw[HLV.out] at this
       exact this
      clear HSU hmap1 hmap2
      go_wp2_with fail
      go_roundw
      case rel=>exact ⟨i+1,by omega,by go_num,rfl,HN,hfr⟩
      case measure=>simp[intOf];omega
     ·have hda:=hst.out.md
      have hE:=HOK.out.da HLV.out rfl i (dOf vv) hmap2
      have hcur:Hid ((bumpL true n.lv (n.es.take i) S3).da=S.da.incs ((n.es.map (fun e=>dOf e.2)).take i)):=by
       show _=_
       rw[HLV.out,←HS3.out]
       unfold bumpL
       rw[if_pos rfl,if_pos rfl,List.map_take]
       rfl
      rw[←hcur.out] at hE
      have HE:=Hi hE
      have hrun:∀Wx,Below wr.heap.size wr Wx→Calls Tryz.prog 86 #[.pointer (some ⟨P.d.p,0,none⟩),.int .i64 ((dOf vv:Nat):Int)] Wx fun e w'=>e=.returned (.int .i64 0)∧Hid (StIn w' F P (bumpL true n.lv (n.es.take (i+1)) S3) ws)∧Hid (Fr P.has w2 w'):=by
       intro Wx hWx
       have hs:=hst.out.keep hWx
       have hi:=rinc_any hs.md (dOf vv)
       rw[HE.out,if_pos rfl] at hi
       refine hi.mono ?_
       rintro e w' ⟨rfl,q1,q2⟩
       refine ⟨rfl,?_,(hfr.out.trans (Fr.of_below hWx)).trans (q2.has has_dn)⟩
       show StIn _ _ _ _ _
       rw[HLV.out,HSU.out]
       have:=hs.daSet q1 q2
       rw[HLV.out] at this
       exact this
      have HR:=Hi hrun
      clear hrun hda hE hcur HE hmap1 hmap2
      go_wp2_with fail
      have HRd:=Hi (HR.out wr.drew (Below.refl _ wr).drew)
      have HDd:=Hi (rdata_any vv wr.drew hvb)
      clear HR
      go_region_with (first|(go_at_call 95;go_loud (with_reducible refine HDd.out.mono ?_;rintro e w' ⟨rfl,rfl⟩))|(go_at_call 86;go_loud (with_reducible refine HRd.out.mono ?_;rintro e w5 ⟨rfl,hs5,hf5⟩)))
      all_goals
       go_wp2_with fail
       go_roundw
       case rel=>exact ⟨i+1,by omega,by go_num,rfl,hs5,hf5⟩
       case measure=>simp[intOf];omega
    ·have hvl:=HOK.out.bl (by rw[HLV.out];exact hl0) c hp i vv hmap1
     rw[HLV.out,if_neg hl0] at hsucc
     have HSU:=Hi hsucc
     have hcur:Hid ((bumpL k n.lv (n.es.take i) S3).bl=(S.bl.setN c 1).incs ((n.es.map Prod.snd).take i)):=by
      show _=_
      rw[HLV.out,←HS3.out]
      unfold bumpL
      rw[if_neg hl0,List.map_take]
      rfl
     rw[←hcur.out] at hvl
     have HE:=Hi hvl
     have hv63:vv<9223372036854775808:=by
      unfold Mp.incE at hvl
      split at hvl
      ·cases hvl
      ·have:=hst.out.mb.lt
       omega
     have hcv2:IntKind.i64.wrap (vv:Int)=(vv:Int):=IntWalk.i64_in _ (by omega)
     have hrun:∀Wx,Below wr.heap.size wr Wx→Calls Tryz.prog 86 #[.pointer (some ⟨P.b.p,0,none⟩),.int .i64 (vv:Int)] Wx fun e w'=>e=.returned (.int .i64 0)∧Hid (StIn w' F P (bumpL k n.lv (n.es.take (i+1)) S3) ws)∧Hid (Fr P.has w2 w'):=by
      intro Wx hWx
      have hs:=hst.out.keep hWx
      have hi:=rinc_any hs.mb vv
      rw[HE.out,if_pos rfl] at hi
      refine hi.mono ?_
      rintro e w' ⟨rfl,q1,q2⟩
      refine ⟨rfl,?_,(hfr.out.trans (Fr.of_below hWx)).trans (q2.has has_bn)⟩
      show StIn _ _ _ _ _
      rw[HLV.out,HSU.out]
      have:=hs.blSet q1 q2 (Mp.setN_len _ _ _)
      rw[HLV.out] at this
      exact this
     have HRd:=Hi (hrun wr.drew (Below.refl _ wr).drew)
     have dl0:(0:Int)<(l:Int):=by omega
     clear hrun hvl hcur HE hmap1 hmap2 hsucc
     go_wp2_with fail
     go_region_with (go_at_call 86;go_loud (with_reducible refine HRd.out.mono ?_;rintro e w5 ⟨rfl,hs5,hf5⟩))
     all_goals
      go_wp2_with fail
      go_roundw
      case rel=>exact ⟨i+1,by omega,by go_num,rfl,hs5,hf5⟩
      case measure=>simp[intOf];omega
   ·obtain rfl:i=len:=by omega
    have hT:n.es.take i=n.es:=List.take_of_length_le (by rw[HL.out];exact Nat.le_refl _)
    have hs:=hst.out
    rw[hT] at hs
    have hd:=rdec_any hs.mb b
    have hE:=HDE.out
    rw[HS3.out] at hE
    rw[hE,if_pos rfl] at hd
    have HS:=Hi hs
    clear hs hE
    go_wp2_with fail
    refine hd.mono ?_
    rintro e w6 ⟨rfl,q1,q2⟩
    have H6:=Hi (HS.out.blSet q1 q2 (Mp.setN_len _ _ _))
    have F6:=Hi (q2.has (P:=P) has_bn)
    clear q1 q2 hd
    go_wp2_with fail
    go_ret2
    rw[HS3.out]
    exact ⟨rfl,H6.out,(Fr.of_below hbx).trans (F3.out.trans (hfr.out.trans F6.out))⟩
end
end Go.Proofs.YtplhdjdkobddnaaGreat
