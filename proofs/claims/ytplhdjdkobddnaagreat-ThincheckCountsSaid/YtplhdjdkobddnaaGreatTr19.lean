/- StF StG StH StI -/
import Derived.Test.YtplhdjdkobddnaaGreatTr16
set_option linter.unusedVariables false
set_option maxRecDepth 100000
set_option maxHeartbeats 40000000
namespace Go.Proofs.YtplhdjdkobddnaaGreat
section
open Go.RowKit
attribute [local go_sem] Oper.semAt_some
theorem rload26_any (W:World) (F:Nat→Prop) (P:SP) (S:St) (ws:List Nat) (h:StIn W F P S ws) (b:Nat) (hb:b<S.bl.now.length) (n:Nd) (hn:S.load b=some n) :
  Calls Tryz.prog 122 #[.pointer (some ⟨P.s,0,none⟩),.int .i64 (b:Int)] W fun e w'=>∃v,e=.returned (.tuple #[v,.int .i64 0])∧NdV w' (OutF (FN F W) P) n v∧Below W.heap.size W w':=by
 have hlen:=h.mb.lt
 have hbz:Below W.heap.size W (W.alloc (.cells #[.int .i64 0,.int .i64 0,.slice none 0 0] 129)):=(Below.refl _ W).alloc (Nat.le_refl _) _
 have hC0:Cs (W.alloc (.cells #[.int .i64 0,.int .i64 0,.slice none 0 0] 129)) W.heap.size 129 #[.int .i64 0,.int .i64 0,.slice none 0 0]:=Cs.new W _ _
 have HW:=Hi h
 have H:=Hi ((h.wide (F':=fun j=>F j∧j<W.heap.size) (fun j h1 h2=>⟨h1,h2⟩) (fun j hj=>⟨h.inF j hj,h.lt j hj⟩)).keep hbz)
 clear h
 have hw0:(W.alloc (.cells #[.int .i64 0,.int .i64 0,.slice none 0 0] 129)).heap.size=W.heap.size+1:=by simp
 have d0:¬(b:Int)<0:=by omega
 go_enter Tryz.func122,Tryz.ntmps122
 generalize hV:(W.alloc (.cells #[.int .i64 0,.int .i64 0,.slice none 0 0] 129))=V at hbz hC0 H hw0
 have x0:V.cell? ⟨P.s,0,none⟩=some (.slice (some ⟨P.w,0,none⟩) ws.length P.cw):=H.out.cs.cell 0
 have x1:V.cell? ⟨P.s,1,none⟩=some (.pointer (some ⟨P.b.p,0,none⟩)):=H.out.cs.cell 1
 have x4:V.cell? ⟨P.s,4,none⟩=some (.map (some P.mp)):=H.out.cs.cell 4
 have xb:V.cell? ⟨P.b.p,0,none⟩=some (.slice (some ⟨P.b.gn,0,none⟩) S.bl.now.length P.b.cn):=H.out.mb.cs.cell 0
 have hps:P.s<V.heap.size:=H.out.cs.lt
 have d1:¬((S.bl.now.length:Nat):Int)≤(b:Int):=by omega
 obtain ⟨v,hlook,hv1,hv2⟩:=H.out.ch.look b (by omega)
 rcases hc:S.ch b with _|nd
 ·have hv:=hv2 hc
  subst hv
  rw[hc] at hlook
  have hdk:dkW ws b=some n:=by
   have:=hn
   unfold St.load at this
   rw[hc,H.out.dk] at this
   exact this
  have hdk1:(b+1) * 16≤ws.length∧decE (blkW ws b) (b:Int)=0:=by
   unfold dkW at hdk
   split at hdk
   ·assumption
   ·cases hdk
  have hdk2:nodeOf (blkW ws b) b=n:=by
   unfold dkW at hdk
   rw[if_pos hdk1] at hdk
   injection hdk
  obtain ⟨q1,q2⟩:=hdk1
  have hwl:=H.out.wl
  have e2:IntKind.i64.wrap ((b:Int)+1)=((b+1:Nat):Int):=by rw[IntWalk.i64_in _ (by omega)];rfl
  have e3:IntKind.i64.wrap (((b+1:Nat):Int) * 16)=(((b+1) * 16:Nat):Int):=by rw[IntWalk.i64_in _ (by omega)];omega
  have d2:¬((ws.length:Nat):Int)<(((b+1) * 16:Nat):Int):=by omega
  clear hv1 hv2 hn hdk
  have hb1:Below V.heap.size V (V.alloc (.cells #[.int .i64 0,.int .i64 0,.slice none 0 0] 129)):=(Below.refl _ V).alloc (Nat.le_refl _) _
  have H1:=Hi (H.out.keep hb1)
  have z0:(V.alloc (.cells #[.int .i64 0,.int .i64 0,.slice none 0 0] 129)).cell? ⟨P.s,0,none⟩=some (.slice (some ⟨P.w,0,none⟩) ws.length P.cw):=H1.out.cs.cell 0
  go_wp2_with (rw[hV])
  have hs1:(V.alloc (.cells #[.int .i64 0,.int .i64 0,.slice none 0 0] 129)).heap.size=W.heap.size+2:=by simp;omega
  generalize hV1:(V.alloc (.cells #[.int .i64 0,.int .i64 0,.slice none 0 0] 129))=V1 at hb1 H1 z0 hs1 ⊢
  have hC1:=hC0.below hb1 hC0.lt
  clear hV1 hlook
  have hbk:=rblock_any ⟨P.w,0,none⟩ ws.length P.cw b V1 q1 (own_cap H1.out.wr) hwl
  rw[Addr.add_lit] at hbk
  refine hbk.mono ?_
  rintro e w1 ⟨rfl,rfl⟩
  have hdc:=refDecode_all (some ⟨P.w,b * 16,none⟩) (P.cw - b * 16) 16 (blkW ws b) (b:Int) V1 (blk_len q1) (blk_reads H1.out.wr q1) (blk_w H1.out.w64 b) (by omega)
  obtain ⟨f1,f2,f3,f4,f5,f6,f7,f8⟩:=dec_facts (blk_w H1.out.w64 b) q2
  rw[q2,f1,f2,hdk2] at hdc
  rw[←f3,hdk2] at hdc
  rw[←f3,hdk2] at f4 f7
  rw[hdk2] at f5 f6
  go_wp2_with fail
  refine hdc.mono ?_
  rintro e w2 ⟨v,rfl,hown,hb2⟩
  obtain ⟨A,c,rfl⟩:=own_form hown
  have hC2:=hC1.below hb2 hC1.lt
  have HC2:=Hi hC2
  obtain ⟨y0,y1,y2,g0,g1,g2⟩:=hC2.at3
  have HO:=Hi hown
  have hsz2:=hb2.size
  have hh2:W.heap.size<w2.heap.size:=by omega
  clear hown hC0 hC1 hC2 hdc hbk
  go_wp2_with fail
  have hC3:=(HC2.out.put3 (.int .i64 (n.lv:Int)) (.int .i64 (n.sq:Int)) (.slice A n.es.length c)).alloc (.cells #[.int .i64 (n.lv:Int),.int .i64 (n.sq:Int),.slice A n.es.length c] 129)
  have hF3:Fr (fun j=>j=W.heap.size) w2 ((((w2.setCell ⟨W.heap.size,0,none⟩ (.int .i64 (n.lv:Int))).setCell ⟨W.heap.size,1,none⟩ (.int .i64 (n.sq:Int))).setCell ⟨W.heap.size,2,none⟩ (.slice A n.es.length c)).alloc (.cells #[.int .i64 (n.lv:Int),.int .i64 (n.sq:Int),.slice A n.es.length c] 129)):=
   (Fr.set (G:=fun j=>j=W.heap.size) (b:=W.heap.size) (Fr.set (G:=fun j=>j=W.heap.size) (b:=W.heap.size) (Fr.set (G:=fun j=>j=W.heap.size) (b:=W.heap.size) (Fr.refl _ _) (.inl rfl) _) (.inl rfl) _) (.inl rfl) _).alloc _
  generalize ((((w2.setCell ⟨W.heap.size,0,none⟩ (.int .i64 (n.lv:Int))).setCell ⟨W.heap.size,1,none⟩ (.int .i64 (n.sq:Int))).setCell ⟨W.heap.size,2,none⟩ (.slice A n.es.length c)).alloc (.cells #[.int .i64 (n.lv:Int),.int .i64 (n.sq:Int),.slice A n.es.length c] 129))=w3 at hC3 hF3 ⊢
  obtain ⟨t0,t1,t2,-,-,-⟩:=hC3.at3
  have hnd:=ndv_own (F:=F) (P:=P) (W0:=W) HO.out (by have:=hb1.size;omega) HW.out.lt f4 (by omega) (by omega) (by omega)
  have hnd3:NdV w3 (OutF (FN F W) P) n (.agg #[.int .i64 (n.lv:Int),.int .i64 (n.sq:Int),.slice A n.es.length c]):=
   ⟨A,c,rfl,(Reads.of_own HO.out).fr hF3 (fun _ p hp e=>by have:=(own_ge HO.out p hp).1;omega),own_cap HO.out,fun h0 p hp=>by
    obtain ⟨g1,g2,g3⟩:=own_ge HO.out p hp
    have:=HW.out.lt
    exact ⟨⟨.inr (by omega),fun hh=>by have:=this _ hh;omega⟩,Nat.lt_of_lt_of_le g2 hF3.size⟩,f4,by omega,by omega,by omega⟩
  have hB:Below W.heap.size W w3:=by
   have hb12:Below W.heap.size W w2:=(hbz.trans (hb1.mono (by omega))).trans (hb2.mono (by omega))
   exact ⟨hF3.os.trans hb12.os,hF3.tape.trans hb12.tape,hF3.output.trans hb12.output,Nat.le_trans hb12.size hF3.size,fun j hj=>(hF3.block j (by omega) (by omega)).trans (hb12.block j hj)⟩
  exact bodyPost_ret (v:=.tuple #[.agg #[.int .i64 (n.lv:Int),.int .i64 (n.sq:Int),.slice A n.es.length c],.int .i64 0]) (by simp[results,Tryz.f122,go_sem,t0,t1,t2]) rfl ⟨_,rfl,hnd3,hB⟩
 ·have hnn:nd=n:=by
   have:=hn
   unfold St.load at this
   rw[hc] at this
   injection this
  subst hnn
  have hnd:=Hi (hv1 nd hc)
  rw[hc] at hlook
  obtain ⟨A,c,rfl,r1,r2,r3,r4,r5,r6,r7⟩:=hnd.out
  have hb1:Below V.heap.size V (V.alloc (.cells #[.int .i64 (nd.lv:Int),.int .i64 (nd.sq:Int),.slice A nd.es.length c] 129)):=(Below.refl _ V).alloc (Nat.le_refl _) _
  clear hv1 hv2 hn
  obtain ⟨y0,y1,y2,g0,g1,g2⟩:=hC0.at3
  have HCA:=Hi hC0
  clear hC0
  go_wp2_with (rw[hV])
  have hC3:=(HCA.out.put3 (.int .i64 (nd.lv:Int)) (.int .i64 (nd.sq:Int)) (.slice A nd.es.length c)).alloc (.cells #[.int .i64 (nd.lv:Int),.int .i64 (nd.sq:Int),.slice A nd.es.length c] 129)
  have hF3:Fr (fun j=>j=W.heap.size) V ((((V.setCell ⟨W.heap.size,0,none⟩ (.int .i64 (nd.lv:Int))).setCell ⟨W.heap.size,1,none⟩ (.int .i64 (nd.sq:Int))).setCell ⟨W.heap.size,2,none⟩ (.slice A nd.es.length c)).alloc (.cells #[.int .i64 (nd.lv:Int),.int .i64 (nd.sq:Int),.slice A nd.es.length c] 129)):=
   (Fr.set (G:=fun j=>j=W.heap.size) (b:=W.heap.size) (Fr.set (G:=fun j=>j=W.heap.size) (b:=W.heap.size) (Fr.set (G:=fun j=>j=W.heap.size) (b:=W.heap.size) (Fr.refl _ _) (.inl rfl) _) (.inl rfl) _) (.inl rfl) _).alloc _
  generalize ((((V.setCell ⟨W.heap.size,0,none⟩ (.int .i64 (nd.lv:Int))).setCell ⟨W.heap.size,1,none⟩ (.int .i64 (nd.sq:Int))).setCell ⟨W.heap.size,2,none⟩ (.slice A nd.es.length c)).alloc (.cells #[.int .i64 (nd.lv:Int),.int .i64 (nd.sq:Int),.slice A nd.es.length c] 129))=w3 at hC3 hF3 ⊢
  obtain ⟨t0,t1,t2,-,-,-⟩:=hC3.at3
  have hnd3:NdV w3 (OutF (FN F W) P) nd (.agg #[.int .i64 (nd.lv:Int),.int .i64 (nd.sq:Int),.slice A nd.es.length c]):=by
   refine ⟨A,c,rfl,r1.fr hF3 (fun h0 p hp e=>?_),r2,fun h0 p hp=>?_,r4,r5,r6,r7⟩
   ·have:=(r3 (fun q=>h0 (by rw[q];rfl)) p hp).1.1.2
    omega
   ·obtain ⟨⟨⟨u1,u2⟩,u3⟩,u4⟩:=r3 h0 p hp
    exact ⟨⟨.inl u1,u3⟩,by have:=hF3.size;omega⟩
  have hB:Below W.heap.size W w3:=⟨hF3.os.trans hbz.os,hF3.tape.trans hbz.tape,hF3.output.trans hbz.output,Nat.le_trans hbz.size hF3.size,fun j hj=>(hF3.block j (by omega) (by omega)).trans (hbz.block j hj)⟩
  exact bodyPost_ret (v:=.tuple #[.agg #[.int .i64 (nd.lv:Int),.int .i64 (nd.sq:Int),.slice A nd.es.length c],.int .i64 0]) (by simp[results,Tryz.f122,go_sem,t0,t1,t2]) rfl ⟨_,rfl,hnd3,hB⟩
end
section
open Go.RowKit
attribute [local go_sem] Oper.semAt_some
section
variable {W W':World} {Out:Nat→Prop}
theorem NdV.val {n:Nd} {v:Value} (h:NdV W Out n v):∃A c,v=.agg #[.int .i64 (n.lv:Int),.int .i64 (n.sq:Int),.slice A n.es.length c]:=by
 obtain ⟨A,c,e,-⟩:=h
 exact ⟨A,c,e⟩
theorem NdV.bd {n:Nd} {v:Value} (h:NdV W Out n v):n.lv≤16∧n.sq≤33554432∧n.es.length≤8:=by
 obtain ⟨A,c,e,h1,h2,h3,h4,h5,h6,h7⟩:=h
 exact ⟨h5,h6,h7⟩
end
theorem rchild26_any (W:World) (F:Nat→Prop) (P:SP) (S:St) (ws:List Nat) (h:StIn W F P S ws) (lv sq:Nat) (A:Option Addr) (len c:Nat) (b:Nat) (hb:b<S.bl.now.length) (m:Nd) (hm:S.load b=some m) (h1:m.lv+1=lv) (h2:m.sq≤sq) :
  Calls Tryz.prog 123 #[.pointer (some ⟨P.s,0,none⟩),.agg #[.int .i64 (lv:Int),.int .i64 (sq:Int),.slice A len c],.int .u64 (b:Int)] W fun e w'=>∃v,e=.returned (.tuple #[.int .i64 (b:Int),v,.int .i64 0])∧NdV w' (OutF (FN F W) P) m v∧Below W.heap.size W w':=by
 have hlen:=h.mb.lt
 have hb1:Below W.heap.size W (W.alloc (.cells #[.int .i64 (lv:Int),.int .i64 (sq:Int),.slice A len c] 129)):=(Below.refl _ W).alloc (Nat.le_refl _) _
 have hB1:=Cs.new W 129 #[.int .i64 (lv:Int),.int .i64 (sq:Int),.slice A len c]
 have hsz1:(W.alloc (.cells #[.int .i64 (lv:Int),.int .i64 (sq:Int),.slice A len c] 129)).heap.size=W.heap.size+1:=by simp
 go_enter Tryz.func123,Tryz.ntmps123
 generalize hV:(W.alloc (.cells #[.int .i64 (lv:Int),.int .i64 (sq:Int),.slice A len c] 129))=V at hb1 hB1 hsz1
 have hb2:Below V.heap.size V (V.alloc (.cells #[.int .i64 0,.int .i64 0,.slice none 0 0] 129)):=(Below.refl _ V).alloc (Nat.le_refl _) _
 have hC2:=Cs.new V 129 #[.int .i64 0,.int .i64 0,.slice none 0 0]
 have hB2:=hB1.alloc (.cells #[.int .i64 0,.int .i64 0,.slice none 0 0] 129)
 have hsz2:(V.alloc (.cells #[.int .i64 0,.int .i64 0,.slice none 0 0] 129)).heap.size=W.heap.size+2:=by simp;omega
 generalize hV2:(V.alloc (.cells #[.int .i64 0,.int .i64 0,.slice none 0 0] 129))=V2 at hb2 hB2 hC2 hsz2
 have hbb:Below W.heap.size W V2:=hb1.trans (hb2.mono (by omega))
 rw[hsz1] at hC2
 have H:=Hi ((h.wide (F':=fun j=>F j∧j<W.heap.size) (fun j h1 h2=>⟨h1,h2⟩) (fun j hj=>⟨h.inF j hj,h.lt j hj⟩)).keep hbb)
 have HW:=Hi h
 clear h
 have x1:V2.cell? ⟨P.s,1,none⟩=some (.pointer (some ⟨P.b.p,0,none⟩)):=H.out.cs.cell 1
 have xb:V2.cell? ⟨P.b.p,0,none⟩=some (.slice (some ⟨P.b.gn,0,none⟩) S.bl.now.length P.b.cn):=H.out.mb.cs.cell 0
 have e1:IntKind.u64.wrap ((S.bl.now.length:Nat):Int)=((S.bl.now.length:Nat):Int):=by rw[IntKind.wrap_u64];omega
 have e2:IntKind.i64.wrap ((b:Nat):Int)=((b:Nat):Int):=IntWalk.i64_in _ (by omega)
 have d1:¬((S.bl.now.length:Nat):Int)≤(b:Int):=by omega
 have HBX:=Hi hB2
 have HCX:=Hi hC2
 clear hB1 hB2 hC2
 go_wp2_with (first|rw[hV]|rw[hV2])
 refine (rload26_any V2 _ P S ws H.out b hb m hm).mono ?_
 rintro e w1 ⟨v,rfl,hnd,hb3⟩
 obtain ⟨A2,c2,rfl⟩:=hnd.val
 obtain ⟨u1,u2,u3⟩:=hnd.bd
 have HND:=Hi hnd
 have hB3:=HBX.out.below hb3 HBX.out.lt
 have hC3:=HCX.out.below hb3 HCX.out.lt
 have HB3:=Hi hB3
 have HC3:=Hi hC3
 obtain ⟨y0,y1,y2,-,-,-⟩:=hB3.at3
 have hq:=hb3.size
 have d2:W.heap.size<w1.heap.size:=by omega
 have d3:W.heap.size+1<w1.heap.size:=by omega
 clear hnd hB3 hC3
 obtain ⟨ml,hml⟩ :∃ml,((m.lv:Nat):Int)=ml:=⟨_,rfl⟩
 obtain ⟨ms,hms⟩ :∃ms,((m.sq:Nat):Int)=ms:=⟨_,rfl⟩
 have e3:IntKind.i64.wrap ((lv:Int) - 1)=ml:=by rw[IntWalk.i64_in _ (by omega)];omega
 have d4:¬(sq:Int)<ms:=by omega
 rw[hml,hms] at HND
 rw[hml,hms]
 have hnew:=box_cells (w:=w1) (lv:=ml) (sq:=ms) (A:=A2) (n:=m.es.length) (c:=c2)
 obtain ⟨z0,z1,z2⟩:=hnew
 go_wp2_with fail
 have hC4:=HC3.out.alloc (.cells #[.int .i64 ml,.int .i64 ms,.slice A2 m.es.length c2] 129)
 have hF4:Below w1.heap.size w1 (w1.alloc (.cells #[.int .i64 ml,.int .i64 ms,.slice A2 m.es.length c2] 129)):=(Below.refl _ w1).alloc (Nat.le_refl _) _
 have hnw:W.heap.size+1≠w1.heap.size:=by omega
 generalize (w1.alloc (.cells #[.int .i64 ml,.int .i64 ms,.slice A2 m.es.length c2] 129))=w4 at hC4 hF4 z0 z1 z2 ⊢
 obtain ⟨q0,q1,q2,g0,g1,g2⟩:=hC4.at3
 have HC4:=Hi hC4
 clear hC4 y0 y1 y2
 go_region
 go_wp2_with fail
 have hC5:=(HC4.out.put3 (.int .i64 ml) (.int .i64 ms) (.slice A2 m.es.length c2)).drew
 have hF5:Fr (fun j=>j=W.heap.size+1) w4 (((w4.setCell ⟨W.heap.size+1,0,none⟩ (.int .i64 ml)).setCell ⟨W.heap.size+1,1,none⟩ (.int .i64 ms)).setCell ⟨W.heap.size+1,2,none⟩ (.slice A2 m.es.length c2)).drew:=
  (Fr.set (G:=fun j=>j=W.heap.size+1) (b:=W.heap.size+1) (Fr.set (G:=fun j=>j=W.heap.size+1) (b:=W.heap.size+1) (Fr.set (G:=fun j=>j=W.heap.size+1) (b:=W.heap.size+1) (Fr.refl _ _) (.inl rfl) _) (.inl rfl) _) (.inl rfl) _).drew
 generalize (((w4.setCell ⟨W.heap.size+1,0,none⟩ (.int .i64 ml)).setCell ⟨W.heap.size+1,1,none⟩ (.int .i64 ms)).setCell ⟨W.heap.size+1,2,none⟩ (.slice A2 m.es.length c2)).drew=w5 at hC5 hF5 ⊢
 obtain ⟨t0,t1,t2,-,-,-⟩:=hC5.at3
 have hnd5:NdV w5 (OutF (FN F W) P) m (.agg #[.int .i64 ml,.int .i64 ms,.slice A2 m.es.length c2]):=by
  have h4:=HND.out.fr (Fr.of_below (G:=fun _=>False) hF4) (fun _ _ h=>h)
  have h5:=h4.wide (Out':=fun j=>OutF (FN F W) P j∧j≠W.heap.size+1) (fun j hj _=>by
   obtain ⟨k1,k2⟩:=hj
   rcases k1 with ⟨k3,k4⟩|k3
   ·exact ⟨⟨.inl k3,k2⟩,by omega⟩
   ·exact ⟨⟨.inr (by omega),k2⟩,by omega⟩)
  exact (h5.fr hF5 (fun j hj e=>hj.2 e)).wide (fun j hj _=>hj.1)
 have hB:Below W.heap.size W w5:=by
  have hb4:Below W.heap.size W w4:=(hbb.trans (hb3.mono (by omega))).trans (hF4.mono (by omega))
  exact ⟨hF5.os.trans hb4.os,hF5.tape.trans hb4.tape,hF5.output.trans hb4.output,Nat.le_trans hb4.size hF5.size,fun j hj=>(hF5.block j (by have:=hb4.size;omega) (by omega)).trans (hb4.block j hj)⟩
 exact bodyPost_ret (v:=.tuple #[.int .i64 (b:Int),.agg #[.int .i64 ml,.int .i64 ms,.slice A2 m.es.length c2],.int .i64 0]) (by simp[results,Tryz.f123,go_sem,t0,t1,t2]) rfl ⟨_,rfl,hnd5,hB⟩
end
section
open Go.RowKit
attribute [local go_sem] Oper.semAt_some
theorem rdata_any (v:Nat) (W:World) (hv:v<18446744073709551616) :
  Calls Tryz.prog 95 #[.int .u64 (v:Int)] W fun e w'=>e=.returned (.int .i64 ((dOf v:Nat):Int))∧W=w':=by
 have h1:=u64_and_nat v 16777215 hv (by omega)
 have h2:v &&& 16777215=dOf v:=Nat.and_two_pow_sub_one_eq_mod v 24
 rw[h2] at h1
 have h3:dOf v<16777216:=Nat.mod_lt _ (by omega)
 have e2:IntKind.i64.wrap ((dOf v:Nat):Int)=((dOf v:Nat):Int):=IntWalk.i64_in _ (by omega)
 obtain ⟨d,hd⟩ :∃d,dOf v=d:=⟨_,rfl⟩
 rw[hd] at h1 h3 e2 ⊢
 clear h2 hd
 change bits BinOp.and IntKind.u64 (v:Int) 16777215=(d:Int) at h1
 go_enter Tryz.func95,Tryz.ntmps95
 go_wp2_with fail
 go_ret
 exact ⟨rfl,rfl⟩
def bumpL (k:Bool) (lv:Nat) (l:List (Int × Nat)) (S:St):St:=if lv=0 then (if k=true then { S with da:=S.da.incs (l.map (fun e=>dOf e.2)) } else S) else { S with bl:=S.bl.incs (l.map Prod.snd) }
theorem incs_snoc (m:Mp) (l:List Nat) (x:Nat):m.incs (l++ [x])=(m.incs l).inc x:=by simp[Mp.incs]
def OkInc (m:Mp) (l:List Nat):Prop:=∀i x,l[i]? =some x→(m.incs (l.take i)).incE x=0
structure TouchOk (S:St) (b:Nat) (n:Nd) (k:Bool):Prop where
 lt:b<S.bl.now.length
 bl:n.lv≠0→∀c,S.bl.pick=some c→OkInc (S.bl.setN c 1) (n.es.map Prod.snd)
 da:n.lv=0→k=true→OkInc S.da (n.es.map (fun e=>dOf e.2))
 vs:∀e∈n.es,e.2<9223372036854775808∨n.lv=0
section
variable {W W':World} {F F':Nat→Prop} {P:SP} {S:St} {ws:List Nat} {G:Nat→Prop}
end
theorem rtouch_here (W:World) (F:Nat→Prop) (P:SP) (S:St) (ws:List Nat) (h:StIn W F P S ws) (b:Nat) (n:Nd) (A:Option Addr) (len c0:Nat) (k:Bool) (hl:n.es.length=len) (hb:b<S.bl.now.length)
  (hv:NdV W (OutF F P) n (.agg #[.int .i64 (n.lv:Int),.int .i64 (n.sq:Int),.slice A len c0])) (h1:S.bl.was b=0∧S.bl.count b=1) :
  Calls Tryz.prog 144 #[.pointer (some ⟨P.s,0,none⟩),.int .i64 (b:Int),.agg #[.int .i64 (n.lv:Int),.int .i64 (n.sq:Int),.slice A len c0],.bool k] W fun e w'=>e=.returned (.tuple #[.int .i64 (b:Int),.int .i64 0])∧StIn w' F P (S.put b n) ws∧Fr P.has W w':=by
 have hbx:Below W.heap.size W (W.alloc (.cells #[.int .i64 (n.lv:Int),.int .i64 (n.sq:Int),.slice A len c0] 129)):=(Below.refl _ W).alloc (Nat.le_refl _) _
 have hx0:=box_cells (w:=W) (lv:=(n.lv:Int)) (sq:=(n.sq:Int)) (A:=A) (n:=len) (c:=c0)
 have H:=Hi (h.keep hbx)
 have HV:=Hi (hv.fr (Fr.of_below (G:=fun _=>False) hbx) (fun _ _ q=>q))
 have HL:=Hi hl
 clear h hv hl
 go_enter Tryz.func144,Tryz.ntmps144
 generalize hV:(W.alloc (.cells #[.int .i64 (n.lv:Int),.int .i64 (n.sq:Int),.slice A len c0] 129))=V at hbx hx0 H HV
 have x1:V.cell? ⟨P.s,1,none⟩=some (.pointer (some ⟨P.b.p,0,none⟩)):=H.out.cs.cell 1
 obtain ⟨y0,y1,y2⟩:=hx0
 have hw:=rwas_any H.out.mb b
 have hc:=rcount_any H.out.mb b
 rw[h1.1] at hw
 rw[h1.2] at hc
 go_wp2_with (rw[hV])
 refine hw.mono ?_
 rintro e w1 ⟨rfl,rfl⟩
 go_wp2_with fail
 refine hc.mono ?_
 rintro e w1 ⟨rfl,rfl⟩
 go_wp2_with fail
 refine (rput26_any V F P S ws H.out b hb n A len c0 HL.out HV.out).mono ?_
 rintro e w2 ⟨rfl,h2,f2⟩
 have H2:=Hi h2
 have F2:=Hi (f2.has has_mp)
 clear h2 f2
 go_wp2_with fail
 go_ret2
 exact ⟨rfl,H2.out,(Fr.of_below hbx).trans F2.out⟩
end
section
open Go.RowKit
attribute [local go_sem] Oper.semAt_some
theorem rtouch_moved (W:World) (F:Nat→Prop) (P:SP) (S:St) (ws:List Nat) (h:StIn W F P S ws) (b:Nat) (n:Nd) (A:Option Addr) (len c0:Nat) (k:Bool) (hl:n.es.length=len) (hb:b<S.bl.now.length) (c:Nat) (hp:S.bl.pick=some c)
  (hv:NdV W (OutF F P) n (.agg #[.int .i64 (n.lv:Int),.int .i64 (n.sq:Int),.slice A len c0])) (h1:S.bl.was b≠0) (h2:S.bl.count b=1) :
  Calls Tryz.prog 144 #[.pointer (some ⟨P.s,0,none⟩),.int .i64 (b:Int),.agg #[.int .i64 (n.lv:Int),.int .i64 (n.sq:Int),.slice A len c0],.bool k] W fun e w'=>e=.returned (.tuple #[.int .i64 (c:Int),.int .i64 0])∧StIn w' F P (({ S with bl:=(S.bl.setN c 1).dec b }:St).put c n) ws∧Fr P.has W w':=by
 have hbx:Below W.heap.size W (W.alloc (.cells #[.int .i64 (n.lv:Int),.int .i64 (n.sq:Int),.slice A len c0] 129)):=(Below.refl _ W).alloc (Nat.le_refl _) _
 have hx0:=box_cells (w:=W) (lv:=(n.lv:Int)) (sq:=(n.sq:Int)) (A:=A) (n:=len) (c:=c0)
 have hltP:=h.lt
 have H:=Hi (h.keep hbx)
 have HV:=Hi (hv.fr (Fr.of_below (G:=fun _=>False) hbx) (fun _ _ q=>q))
 have HL:=Hi hl
 obtain ⟨p1,p2,p3⟩:=Mp.pick_some hp
 have hbc:b≠c:=by rintro rfl;omega
 clear h hv hl
 go_enter Tryz.func144,Tryz.ntmps144
 generalize hV:(W.alloc (.cells #[.int .i64 (n.lv:Int),.int .i64 (n.sq:Int),.slice A len c0] 129))=V at hbx hx0 H HV
 have x1:V.cell? ⟨P.s,1,none⟩=some (.pointer (some ⟨P.b.p,0,none⟩)):=H.out.cs.cell 1
 obtain ⟨y0,y1,y2⟩:=hx0
 have hw:=rwas_any H.out.mb b
 obtain ⟨ww,hww⟩ :∃ww,S.bl.was b=ww:=⟨_,rfl⟩
 rw[hww] at hw h1
 have d1:¬(ww:Int)=0:=by omega
 clear hww
 go_wp2_with (rw[hV])
 refine hw.mono ?_
 rintro e w1 ⟨rfl,rfl⟩
 go_wp2_with fail
 refine (rfresh_any V F P S ws H.out c hp n A len c0 HL.out HV.out).mono ?_
 rintro e w2 ⟨rfl,h3,f3⟩
 have hm3:=h3.mb
 have x3:w2.cell? ⟨P.s,1,none⟩=some (.pointer (some ⟨P.b.p,0,none⟩)):=h3.cs.cell 1
 have H3:=Hi h3
 have F3:=Hi f3
 have hc:=rcount_any hm3 b
 have e3:Mp.count (({ S with bl:=S.bl.setN c 1 }:St).put c n).bl b=1:=by
  show (S.bl.setN c 1).count b=1
  rw[Mp.count_setN p1,if_neg hbc]
  exact h2
 rw[e3] at hc
 clear h3 f3
 go_wp2_with fail
 refine hc.mono ?_
 rintro e w1 ⟨rfl,rfl⟩
 go_wp2_with fail
 have hd:=rdec_any hm3 b
 have e4:Mp.decE (({ S with bl:=S.bl.setN c 1 }:St).put c n).bl b=0:=by
  unfold Mp.decE
  rw[e3,if_neg (by show¬(S.bl.setN c 1).now.length≤b;rw[Mp.setN_len];omega),if_neg (by omega)]
 rw[e4,if_pos rfl] at hd
 refine hd.mono ?_
 rintro e w4 ⟨rfl,h4,f4⟩
 have H4:=Hi (H3.out.blSet h4 f4 (Mp.setN_len _ _ _))
 have F4:=Hi (f4.has has_bn)
 clear h4 f4 hd hc hm3
 go_wp2_with fail
 go_ret2
 exact ⟨rfl,H4.out,(Fr.of_below hbx).trans (F3.out.trans F4.out)⟩
end
end Go.Proofs.YtplhdjdkobddnaaGreat
