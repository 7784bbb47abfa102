/- ThP ThN ThS ThT -/
import Derived.Test.YtplhdjdkobddnaaGreatTr34
import Derived.Laws.EntriesVeiled
set_option linter.unusedVariables false
set_option maxRecDepth 100000
set_option maxHeartbeats 40000000
namespace Go.Proofs.YtplhdjdkobddnaaGreat
section
open Go.RowKit
attribute [local go_sem] Oper.semAt_some
theorem Fr.trans_or {F G:Nat→Prop} {A B C:World} (h:Fr F A B) (k:Fr G B C) (hg:∀j,G j→F j∨A.heap.size≤j):Fr F A C:=
 ⟨k.os.trans h.os,k.tape.trans h.tape,k.output.trans h.output,Nat.le_trans h.size k.size,fun j hj hn=>(k.block j (Nat.lt_of_lt_of_le hj h.size) (fun hc=>by rcases hg j hc with q|q;exact hn q;omega)).trans (h.block j hj hn)⟩
structure DlOk (k:CK) (ws:List Nat) (u:Nat) (n:Nd) (sq:Nat):Prop where
 dk:dkW ws u=some n
 lv:n.lv=0
 sq:n.sq≤sq
 ln:n.es.length≤7
 ul:u<blN k.n
 ug:2 * arB k.da<u
 ub:u≠k.bk
 da:k.da≤16384
 es:∀e∈n.es,0≤e.1∧e.1≤65535∧e.2<18446744073709551616∧e.2 / 1048576 % 1048576≤k.ti
 mp:k.mp=false
 ls:∃A n c,k.ls=.slice A n c∧n<64
structure DwIn (W:World) (C cl db:Nat) (k:CK) (ws:List Nat) (len:Nat):Prop where
 ck:CkIn W C k ws
 bc:Cs W cl 55 #[.pointer (some ⟨C,0,none⟩)]
 dv:Cs W db 87 #[.slice none 0 0]
 sn:SnIn W k.ms len (fun _=>none)
 tk:Seen W k.mt 0 []
 a1:C<cl∧k.g<cl∧k.ms<cl∧k.mt<cl∧cl<db
 a2:k.ms≠C∧k.ms≠k.g∧k.mt≠C∧k.mt≠k.g∧k.ms≠k.mt
 l4:len≤4096
theorem DwIn.keep {W W':World} {C cl db:Nat} {k:CK} {ws:List Nat} {len:Nat} (h:DwIn W C cl db k ws len) (hb:Below W.heap.size W W'):DwIn W' C cl db k ws len:=
 ⟨h.ck.keep hb,h.bc.below hb h.bc.lt,h.dv.below hb h.dv.lt,h.sn.fr (G:=fun _=>False) (Fr.of_below hb) (fun q=>q),h.tk.fr (G:=fun _=>False) (Fr.of_below hb) (fun q=>q),h.a1,h.a2,h.l4⟩
theorem ckdleaf_any {C cb vb lb cl db:Nat} {k:CK} {ws:List Nat} {len u sq:Nat} {n:Nd} (D:DlOk k ws u n sq) (hul:u<len) (W:World) (H:DwIn W C cl db k ws len)
  (hcb:Cs W cb 55 #[.pointer (some ⟨C,0,none⟩)])
  (hlb:Cs W lb 121 #[.func (.func 73) #[] #[.pointer (some ⟨cl,0,none⟩),.pointer (some ⟨db,0,none⟩)]]) (ho:db<cb∧db<lb) :
  Calls Tryz.prog 114 #[.int .u64 (u:Int),.agg #[.int .i64 (-1),.int .i64 (sq:Int),.int .i64 0,.int .i64 16777216],.pointer (some ⟨cb,0,none⟩),.pointer (some ⟨vb,0,none⟩),.pointer (some ⟨lb,0,none⟩)] W fun e w'=>e=.returned (.int .i64 (n.es.length:Int))∧(∃A c,Cs w' db 87 #[.slice A n.es.length c]∧Reads w' A (ev n.es)∧∀p,A=some p→W.heap.size≤p.block)∧CkIn w' C k ws∧Cs w' cl 55 #[.pointer (some ⟨C,0,none⟩)]∧SnIn w' k.ms len (fun w=>if w=u then some n.es.length else none)∧Seen w' k.mt 1 [(u:Int)]∧Fr (fun j=>j=db∨j=k.ms∨j=k.mt) W w':=by
 obtain ⟨lsA,lsn,lsc,hls,hls64⟩:=D.ls
 have hda:=D.da
 have hnl:=H.ck.nl
 have hlen:=H.l4
 have hu4:=D.ul
 have hug:=D.ug
 have hub:=D.ub
 have hbl4:blN k.n≤4096:=by unfold blN;omega
 have HFL:=Hi (fun w (hw:Below W.heap.size W w)=>ckfull_any w C k (H.ck.cs.below hw H.ck.cs.lt) lsA lsn lsc hls hls64)
 have HBL:=Hi (fun w (hw:Below W.heap.size W w)=>ckblocks_any w C k (H.ck.cs.below hw H.ck.cs.lt) (by omega))
 have HND:=Hi (fun w (hw:CkIn w C k ws)=>cknode_any w C k ws hw u n D.dk (-1) sq 0 16777216 ⟨.inl ⟨rfl,fun q=>absurd D.lv q⟩,D.sq⟩ (by omega))
 have HAB:=Hi (fun w=>thareas_any k.da w (by omega))
 have har:arB k.da≤300:=by unfold arB;omega
 obtain ⟨B,hB⟩ :∃q,blN k.n=q:=⟨_,rfl⟩
 obtain ⟨a,ha⟩ :∃q,arB k.da=q:=⟨_,rfl⟩
 rw[hB] at HBL hu4 hbl4
 rw[ha] at HAB hug har
 clear hB ha
 have x0:W.cell? ⟨cb,0,none⟩=some (.pointer (some ⟨C,0,none⟩)):=hcb.cell 0
 have hcbl:=hcb.lt
 have hlbl:=hlb.lt
 have b0:Below W.heap.size W (W.alloc (.cells #[.int .i64 (-1),.int .i64 (sq:Int),.int .i64 0,.int .i64 16777216] 116)):=(Below.refl _ W).alloc (Nat.le_refl _) _
 have CP:=Cs.new W 116 #[.int .i64 (-1),.int .i64 (sq:Int),.int .i64 0,.int .i64 16777216]
 have HFL0:=Hi (HFL.out _ b0)
 have HBL0:=Hi (HBL.out _ b0)
 have H0:=Hi (H.keep b0)
 have HCB0:=Hi (hcb.below b0 hcb.lt)
 have HLB0:=Hi (hlb.below b0 hlb.lt)
 have HB0:=Hi b0
 clear HFL HBL b0 hcb hlb
 go_enter Tryz.func114,Tryz.ntmps114
 go_wp2_with fail
 refine HFL0.out.mono ?_
 rintro e w' ⟨rfl,rfl⟩
 clear HFL0
 generalize (W.alloc (.cells #[.int .i64 (-1),.int .i64 (sq:Int),.int .i64 0,.int .i64 16777216] 116))=W0 at *
 obtain ⟨pb,hpb⟩ :∃q,W.heap.size=q:=⟨_,rfl⟩
 have HPB:=Hi hpb
 rw[hpb] at CP hcbl hlbl ⊢
 have hW0:pb<W0.heap.size:=CP.lt
 have z0:W0.cell? ⟨cb,0,none⟩=some (.pointer (some ⟨C,0,none⟩)):=HCB0.out.cell 0
 have z1:W0.cell? ⟨C,1,none⟩=some (.int .i64 (k.bk:Int)):=H0.out.ck.cs.cell 1
 have z5:W0.cell? ⟨C,5,none⟩=some (.int .i64 (k.da:Int)):=H0.out.ck.cs.cell 5
 have z10:W0.cell? ⟨C,10,none⟩=some (.map (some k.mt)):=H0.out.ck.cs.cell 10
 have z11:W0.cell? ⟨C,11,none⟩=some (.bool k.mp):=H0.out.ck.cs.cell 11
 rw[D.mp] at z11
 obtain ⟨bk,hbk⟩ :∃q,k.bk=q:=⟨_,rfl⟩
 rw[hbk] at z1 hub
 have v1:IntKind.i64.wrap (u:Int)=(u:Int):=IntWalk.i64_in _ (by omega)
 have v2:IntKind.u64.wrap (B:Int)=(B:Int):=IntWalk.u64_in _ (by omega)
 have v3:IntKind.i64.wrap (2 * (a:Int))=2 * (a:Int):=IntWalk.i64_in _ (by omega)
 have c1:¬(B:Int)≤(u:Int):=by omega
 have c2:¬(u:Int)≤2 * (a:Int):=by omega
 have c3:((u:Int) == (bk:Int))=false:=by simp;omega
 obtain ⟨L,hLn⟩ :∃q,n.es.length=q:=⟨_,rfl⟩
 have hL7:=D.ln
 rw[hLn] at hL7
 have HLN:=Hi hLn
 obtain ⟨W1,hrun1,hsn1,hg1⟩:=H0.out.tk.store (by simp[maxLen]) (u:Int) (by omega)
 have hf1:Fr (fun j=>j=k.mt) W0 W1:=Fr.of_grown hg1
 have HF1:=Hi hf1
 have HK1:=Hi (H0.out.ck.fr hf1 (fun e=>H.a2.2.2.1 e.symm) (fun e=>H.a2.2.2.2.1 e.symm))
 have HCB1:=Hi (HCB0.out.fr hf1 (fun e=>by have:=H.a1;have:=ho.1;omega))
 have HLB1:=Hi (HLB0.out.fr hf1 (fun e=>by have:=H.a1;have:=ho.2;omega))
 have HCL1:=Hi (H0.out.bc.fr hf1 (fun e=>by have:=H.a1;omega))
 have HDB1:=Hi (H0.out.dv.fr hf1 (fun e=>by have:=H.a1;omega))
 have HSN1:=Hi (H0.out.sn.fr hf1 H.a2.2.2.2.2)
 have CP1:=CP.fr hf1 (fun e=>by have:=H.a1;have:=ho.1;omega)
 have HTK1:=Hi hsn1
 have HND1:=Hi (HND.out _ HK1.out)
 rw[D.lv,hLn] at HND1
 obtain ⟨ns,hns2⟩ :∃q,n.sq=q:=⟨_,rfl⟩
 rw[hns2] at HND1
 have y0:W1.cell? ⟨cb,0,none⟩=some (.pointer (some ⟨C,0,none⟩)):=HCB1.out.cell 0
 have p0:W1.cell? ⟨pb,0,none⟩=some (.int .i64 (-1)):=CP1.cell 0
 have p1:W1.cell? ⟨pb,1,none⟩=some (.int .i64 (sq:Int)):=CP1.cell 1
 have p2:W1.cell? ⟨pb,2,none⟩=some (.int .i64 0):=CP1.cell 2
 have p3:W1.cell? ⟨pb,3,none⟩=some (.int .i64 16777216):=CP1.cell 3
 have hs1:=hf1.size
 clear hLn hns2 hbk hpb hsn1 hg1 hf1 CP HND
 go_wp2_with fail
 refine HBL0.out.mono ?_
 rintro e w' ⟨rfl,rfl⟩
 clear HBL0
 go_wp2_with fail
 refine (HAB.out _).mono ?_
 rintro e w' ⟨rfl,rfl⟩
 go_wp2_with fail
 refine HND1.out.mono ?_
 rintro e w1 ⟨A,c,rfl,hrd,hA,hb1⟩
 have bo:Below w1.heap.size w1 (w1.alloc (.cells #[.int .i64 0,.int .i64 (ns:Int),.slice A L c] 129)):=(Below.refl _ w1).alloc (Nat.le_refl _) _
 have hbb:Below W1.heap.size W1 (w1.alloc (.cells #[.int .i64 0,.int .i64 (ns:Int),.slice A L c] 129)):=hb1.trans (bo.mono hb1.size)
 have CX:=Cs.new w1 129 #[.int .i64 0,.int .i64 (ns:Int),.slice A L c]
 have CP2:=Hi (CP1.below hbb CP1.lt)
 have HK2:=Hi (HK1.out.keep hbb)
 have HCB2:=Hi (HCB1.out.below hbb HCB1.out.lt)
 have HLB2:=Hi (HLB1.out.below hbb HLB1.out.lt)
 have HCL2:=Hi (HCL1.out.below hbb HCL1.out.lt)
 have HDB2:=Hi (HDB1.out.below hbb HDB1.out.lt)
 have HSN2:=Hi (HSN1.out.fr (G:=fun _=>False) (Fr.of_below hbb) (fun q=>q))
 have HTK2:=Hi (HTK1.out.fr (G:=fun _=>False) (Fr.of_below hbb) (fun q=>q))
 have HR2:=Hi (hrd.keep bo)
 have HF2:Hid (Fr (fun j=>j=db∨j=k.ms∨j=k.mt) W (w1.alloc (.cells #[.int .i64 0,.int .i64 (ns:Int),.slice A L c] 129))):=((Fr.of_below HB0.out).trans (HF1.out.mono (fun j _ e=>.inr (.inr e)))).trans (Fr.of_below hbb)
 have HA2:=Hi hA
 have hsz1:=hb1.size
 have hpb1:pb<w1.heap.size:=by omega
 clear hrd hA hb1 bo hbb HND1 z0 z1 z5 z10 z11 y0 p0 p1 p2 p3 CP1 HK1 HCB1 HLB1 HCL1 HDB1 HSN1 HTK1 HF1 hrun1
 go_upto_region 10 with (fail)
 generalize (w1.alloc (.cells #[.int .i64 0,.int .i64 (ns:Int),.slice A L c] 129))=w2 at CX CP2 HK2 HCB2 HLB2 HCL2 HDB2 HSN2 HTK2 HR2 HF2 ⊢
 obtain ⟨nb,hnb⟩ :∃q,w1.heap.size=q:=⟨_,rfl⟩
 rw[hnb] at CX hpb1 hsz1 ⊢
 have HNB:=Hi hnb
 clear hnb
 have z0:w2.cell? ⟨cb,0,none⟩=some (.pointer (some ⟨C,0,none⟩)):=HCB2.out.cell 0
 have z9:w2.cell? ⟨C,9,none⟩=some (.map (some k.ms)):=HK2.out.cs.cell 9
 have hlk:=HSN2.out.look u (by omega)
 simp only[Option.getD_none,Option.isSome_none,Int.natCast_zero] at hlk
 have HCX:=Hi CX
 have n0:w2.cell? ⟨nb,0,none⟩=some (.int .i64 0):=CX.cell 0
 have n2:w2.cell? ⟨nb,2,none⟩=some (.slice A L c):=CX.cell 2
 have hnb2:nb<w2.heap.size:=CX.lt
 obtain ⟨bs,hbs⟩ :∃q,w2.heap.size=q:=⟨_,rfl⟩
 have HBS:=Hi hbs
 rw[hbs] at hnb2
 have hwbs:W.heap.size≤bs:=by have:=HF2.out.size;omega
 have HOR:Hid (db<pb∧cl<db∧C<cl∧k.g<cl∧k.ms<cl∧k.mt<cl∧pb<nb∧cb<pb∧lb<pb∧db<cb∧db<lb):=by
  have h1:=H.a1
  refine ⟨?_,h1.2.2.2.2,h1.1,h1.2.1,h1.2.2.1,h1.2.2.2.1,?_,hcbl,hlbl,ho.1,ho.2⟩ <;> omega
 have hT0:TdIn w2 C cl db bs k ws []:=⟨HK2.out,HCL2.out,⟨_,HDB2.out,World.ownsRow_nil _ _ _ _⟩,by have:=HOR.out;omega,by have:=HOR.out;omega,by have:=HOR.out;omega,by have:=HOR.out;omega,by have:=HBS.out;omega⟩
 have HT0:=Hi hT0
 have HES:=Hi D.es
 have HDD:=Hi D
 have H2:=Hi H.a2
 clear CX hT0 hbs H ho D
 go_wp2_with fail
 clear z0 z9 hlk
 go_loopw [13,14,15,16,100] (fun s13 _ _ _ s100 wr=>∃i:Nat,i≤L∧s13=.int .i64 (i:Int)∧s100=.int .i64 (i:Int)∧Hid (TdIn wr C cl db bs k ws (n.es.take i))∧Hid (Fr (fun j=>j=db∨bs≤j) w2 wr)) (fun _ _ _ _ s100 _=>L - (intOf s100).toNat)
 case atStart=>exact ⟨0,Nat.zero_le _,rfl,rfl,HT0.out,Fr.refl _ _⟩
 case round=>
  obtain ⟨i,hiL,rfl,rfl,hst,hfr⟩:=hrel
  have hN:=HCX.out.fr hfr.out (fun q=>by have:=HOR.out;omega)
  have hP:=CP2.out.fr hfr.out (fun q=>by have:=HOR.out;omega)
  have hCBr:=HCB2.out.fr hfr.out (fun q=>by have:=HOR.out;omega)
  have hLBr:=HLB2.out.fr hfr.out (fun q=>by have:=HOR.out;omega)
  have hRd:=HR2.out.fr hfr.out (fun h0 p hp q=>by
   obtain ⟨ab,ao,e1,e2,-⟩:=HR2.out h0
   have:=HA2.out p hp
   have:=HOR.out
   have:=HBS.out
   rw[hp] at e1
   injection e1 with e1
   subst e1
   have e2:ab<w2.heap.size:=e2
   have q:ab=db∨bs≤ab:=q
   have h5:W1.heap.size≤ab:=HA2.out _ hp
   omega)
  have n2:wr.cell? ⟨nb,2,none⟩=some (.slice A L c):=hN.cell 2
  by_cases hlt:i<L
  ·have u1:(i:Int)<(L:Int):=by omega
   obtain ⟨ab,ao,rfl,hal,hcl⟩:=hRd.e (by rw[HLN.out];omega)
   obtain ⟨hk1,hv1⟩:=hcl i (by rw[HLN.out];exact hlt)
   have hmem:n.es[i]?.getD (0,0)∈n.es:=by rw[getD_mem (by rw[HLN.out];exact hlt)];exact List.getElem_mem _
   have hes:=HES.out _ hmem
   have htk:Hid (n.es.take (i+1)=n.es.take i++ [((n.es[i]?.getD (0,0)).1,(n.es[i]?.getD (0,0)).2)]):=by
    show _=_
    rw[List.take_add_one,List.getElem?_eq_getElem (by rw[HLN.out];exact hlt)]
    rfl
   obtain ⟨key,hkey⟩ :∃q,(n.es[i]?.getD (0,0)).1=q:=⟨_,rfl⟩
   obtain ⟨vv,hvv⟩ :∃q,(n.es[i]?.getD (0,0)).2=q:=⟨_,rfl⟩
   rw[hkey] at hk1 hes htk
   rw[hvv] at hv1 hes htk
   obtain ⟨q1,q2,q3,q4⟩:=hes
   have HQ4:=Hi q4
   have ba:Below wr.heap.size wr (wr.alloc (.cells #[.int .i64 key,.int .u64 (vv:Int)] 94)):=(Below.refl _ wr).alloc (Nat.le_refl _) _
   have CE:=Cs.new wr 94 #[.int .i64 key,.int .u64 (vv:Int)]
   have HS3:=Hi (hst.out.keep ba)
   have HF3:Hid (Fr (fun j=>j=db∨bs≤j) w2 _):=hfr.out.trans (Fr.of_below ba)
   have hN3:=hN.below ba hN.lt
   have hP3:=hP.below ba hP.lt
   have hCB3:=hCBr.below ba hCBr.lt
   have hLB3:=hLBr.below ba hLBr.lt
   have hwrs:=hfr.out.size
   have HR3:=Hi (hRd.keep ba)
   have e1:IntKind.i64.wrap ((i:Int)+1)=((i+1:Nat):Int):=by rw[IntWalk.i64_in _ (by omega)];rfl
   clear hkey hvv ba hN hP hCBr hLBr hcl hRd hst hfr q4 hmem
   go_upto_region 19 with (fail)
   generalize (wr.alloc (.cells #[.int .i64 key,.int .u64 (vv:Int)] 94))=w3 at CE HS3 HF3 hN3 hP3 hCB3 hLB3 HR3 ⊢
   obtain ⟨eb,heb⟩ :∃q,wr.heap.size=q:=⟨_,rfl⟩
   rw[heb] at CE hal ⊢
   clear heb hk1 hv1 n2
   have z0:w3.cell? ⟨cb,0,none⟩=some (.pointer (some ⟨C,0,none⟩)):=hCB3.cell 0
   have zl:w3.cell? ⟨lb,0,none⟩=some (.func (.func 73) #[] #[.pointer (some ⟨cl,0,none⟩),.pointer (some ⟨db,0,none⟩)]):=hLB3.cell 0
   have n0:w3.cell? ⟨nb,0,none⟩=some (.int .i64 0):=hN3.cell 0
   have n2:w3.cell? ⟨nb,2,none⟩=some (.slice (some ⟨ab,ao,none⟩) L c):=hN3.cell 2
   have p2:w3.cell? ⟨pb,2,none⟩=some (.int .i64 0):=hP3.cell 2
   have p3:w3.cell? ⟨pb,3,none⟩=some (.int .i64 16777216):=hP3.cell 3
   have q0:w3.cell? ⟨eb,0,none⟩=some (.int .i64 key):=CE.cell 0
   have q1':w3.cell? ⟨eb,1,none⟩=some (.int .u64 (vv:Int)):=CE.cell 1
   have t3:¬key<0:=by omega
   have t4:¬(16777216:Int)≤key:=by omega
   have HLF:=Hi (ckdev_any w3 C cl db bs k ws (n.es.take i) HS3.out key vv q2 q3 HQ4.out (by rw[List.length_take];omega))
   rw[←htk.out] at HLF
   clear CE hN3 hP3 hCB3 hLB3
   by_cases h1:i+1<L
   ·have d1:((i+1:Nat):Int)<(L:Int):=by omega
    obtain ⟨nk,hnk⟩ :∃q,(n.es[i+1]?.getD (0,0)).1=q:=⟨_,rfl⟩
    have q3':w3.cell? ⟨ab,ao+(i+1) * 2,none⟩=some (.int .i64 nk):=by
     obtain ⟨ab',ao',he,-,hcl⟩:=HR3.out.e (by rw[HLN.out];omega)
     injection he with he
     injection he with he1 he2
     subst he1 he2
     rw[←hnk]
     exact (hcl (i+1) (by rw[HLN.out];exact h1)).1
    clear hnk
    go_wp2_with fail
    refine HLF.out.mono ?_
    rintro e w4 ⟨rfl,hv4,hf4⟩
    have HS4:=Hi hv4
    have HF4:=Hi (HF3.out.trans hf4)
    clear hv4 hf4 HLF
    go_wp2_with fail
    go_roundw
    case rel=>exact ⟨i+1,hlt,by go_num,by go_num,HS4.out,HF4.out⟩
    case measure=>simp[intOf];omega
   ·have d1:¬((i+1:Nat):Int)<(L:Int):=by omega
    go_wp2_with fail
    refine HLF.out.mono ?_
    rintro e w4 ⟨rfl,hv4,hf4⟩
    have HS4:=Hi hv4
    have HF4:=Hi (HF3.out.trans hf4)
    clear hv4 hf4 HLF
    go_wp2_with fail
    go_roundw
    case rel=>exact ⟨i+1,hlt,by go_num,by go_num,HS4.out,HF4.out⟩
    case measure=>simp[intOf];omega
  ·obtain rfl:i=L:=by omega
   have u1:¬(i:Int)<(i:Int):=by omega
   have z0:wr.cell? ⟨cb,0,none⟩=some (.pointer (some ⟨C,0,none⟩)):=hCBr.cell 0
   have z9:wr.cell? ⟨C,9,none⟩=some (.map (some k.ms)):=hst.out.ck.cs.cell 9
   have hsnr:=HSN2.out.fr hfr.out (fun q=>by have:=HOR.out;omega)
   have htkr:=HTK2.out.fr hfr.out (fun q=>by have:=HOR.out;omega)
   obtain ⟨w5,hrun,hsn,hfs⟩:=hsnr.store (b:=u) hul (by omega) i
   have HSN5:=Hi hsn
   have HTK5:=Hi (htkr.fr hfs (fun e=>H2.out.2.2.2.2 e.symm))
   have HCK5:=Hi (hst.out.ck.fr hfs (fun e=>H2.out.1 e.symm) (fun e=>H2.out.2.1 e.symm))
   have HCL5:=Hi (hst.out.bx.fr hfs (fun e=>by have:=HOR.out;omega))
   have HDV5:Hid (∃A c,Cs w5 db 87 #[.slice A i c]∧Reads w5 A (ev n.es)∧∀p,A=some p→W.heap.size≤p.block):=by
    obtain ⟨v,e1,e2⟩:=hst.out.dv
    have e3:n.es.take i=n.es:=List.take_of_length_le (by rw[HLN.out];exact Nat.le_refl _)
    rw[e3,HLN.out] at e2
    obtain ⟨A',c',hv⟩:=own_form e2
    subst hv
    refine ⟨A',c',e1.fr hfs (fun e=>by have:=HOR.out;omega),(Reads.of_own e2).fr hfs (fun _ p hp e=>?_),fun p hp=>?_⟩
    ·subst hp
     have:=own_base e2 p.block (by simp[Value.ownBlock])
     have:=HOR.out
     omega
    ·subst hp
     have:=own_base e2 p.block (by simp[Value.ownBlock])
     omega
   have HF5:Hid (Fr (fun j=>j=db∨j=k.ms∨j=k.mt) W w5):=by
    refine (HF2.out.trans_or hfr.out (fun j q=>q.elim (fun q=>.inl (.inl q)) (fun q=>.inr (by omega)))).trans (hfs.mono (fun j _ e=>.inr (.inl e)))
   clear hsn hfs hst hfr hN hP hRd hsnr htkr
   go_wp2_with fail
   go_ret
   obtain ⟨A5,c5,x1,x2,x3⟩:=HDV5.out
   exact ⟨by rw[HLN.out];rfl,⟨A5,⟨c5,by rw[HLN.out];exact x1⟩,x2,x3⟩,HCK5.out,HCL5.out,by rw[HLN.out];exact HSN5.out,HTK5.out,HF5.out⟩
theorem ckdwalk_any {C cl db:Nat} {k:CK} {ws:List Nat} {len u sq:Nat} {n:Nd} (D:DlOk k ws u n sq) (hul:u<len) (W:World) (H:DwIn W C cl db k ws len) :
  Calls Tryz.prog 72 #[.pointer (some ⟨C,0,none⟩),.int .u64 (u:Int),.agg #[.int .i64 (-1),.int .i64 (sq:Int),.int .i64 0,.int .i64 16777216],.func (.func 73) #[] #[.pointer (some ⟨cl,0,none⟩),.pointer (some ⟨db,0,none⟩)]] W fun e w'=>e=.returned (.int .i64 (n.es.length:Int))∧(∃A c,Cs w' db 87 #[.slice A n.es.length c]∧Reads w' A (ev n.es)∧∀p,A=some p→W.heap.size≤p.block)∧CkIn w' C k ws∧Cs w' cl 55 #[.pointer (some ⟨C,0,none⟩)]∧SnIn w' k.ms len (fun w=>if w=u then some n.es.length else none)∧Seen w' k.mt 1 [(u:Int)]∧Fr (fun j=>j=db∨j=k.ms∨j=k.mt) W w':=by
 have hdbl:=H.dv.lt
 obtain ⟨A1,hA1⟩ :∃q,W.alloc (.cells #[.pointer (some ⟨C,0,none⟩)] 55)=q:=⟨_,rfl⟩
 obtain ⟨A2,hA2⟩ :∃q,A1.alloc (.cells #[.int .i64 (-1),.int .i64 (sq:Int),.int .i64 0,.int .i64 16777216] 116)=q:=⟨_,rfl⟩
 obtain ⟨A3,hA3⟩ :∃q,A2.alloc (.cells #[.func (.func 73) #[] #[.pointer (some ⟨cl,0,none⟩),.pointer (some ⟨db,0,none⟩)]] 121)=q:=⟨_,rfl⟩
 obtain ⟨s,hs⟩ :∃q,W.heap.size=q:=⟨_,rfl⟩
 obtain ⟨B4,hB4⟩ :∃q,A3.alloc (.cells #[.nilFunc] 173)=q:=⟨_,rfl⟩
 obtain ⟨vf,hvf⟩ :∃q:Value,.func (.func 114) #[] #[.pointer (some ⟨s,0,none⟩),.pointer (some ⟨s+1+1+1,0,none⟩),.pointer (some ⟨s+1+1,0,none⟩)]=q:=⟨_,rfl⟩
 obtain ⟨A4,hA4⟩ :∃q,B4.setCell ⟨s+1+1+1,0,none⟩ vf=q:=⟨_,rfl⟩
 have s1:A1.heap.size=s+1:=by rw[←hA1,←hs];simp
 have s2:A2.heap.size=s+1+1:=by rw[←hA2,←s1];simp
 have s3:A3.heap.size=s+1+1+1:=by rw[←hA3,←s2];simp
 have b1:Below W.heap.size W A1:=by rw[←hA1];exact (Below.refl _ W).alloc (Nat.le_refl _) _
 have b2:Below A1.heap.size A1 A2:=by rw[←hA2];exact (Below.refl _ A1).alloc (Nat.le_refl _) _
 have b3:Below A2.heap.size A2 A3:=by rw[←hA3];exact (Below.refl _ A2).alloc (Nat.le_refl _) _
 have b4:Below A3.heap.size A3 A4:=by
  rw[←hA4,←hB4]
  exact ((Below.refl _ A3).alloc (Nat.le_refl _) _).setCell (by show A3.heap.size≤s+1+1+1;omega) _
 have b34:=b3.trans (b4.mono b3.size)
 have b24:=b2.trans (b34.mono b2.size)
 have b14:=b1.trans (b24.mono b1.size)
 have c1:=Cs.new W 55 #[.pointer (some ⟨C,0,none⟩)]
 rw[hA1,hs] at c1
 have c2:=Cs.new A1 116 #[.int .i64 (-1),.int .i64 (sq:Int),.int .i64 0,.int .i64 16777216]
 rw[hA2,s1] at c2
 have c3:=Cs.new A2 121 #[.func (.func 73) #[] #[.pointer (some ⟨cl,0,none⟩),.pointer (some ⟨db,0,none⟩)]]
 rw[hA3,s2] at c3
 have c0:=Cs.new A3 173 #[.nilFunc]
 rw[hB4,s3] at c0
 have c4:Cs A4 (s+1+1+1) 173 #[vf]:=by rw[←hA4];exact heap_setCell_same _ _ 0 _ _ vf c0
 rw[←hvf] at c4
 have y0:B4.cell? ⟨s+1+1+1,0,none⟩=some .nilFunc:=c0.cell 0
 have y1:=c0.free 0
 have d1:=c1.below b24 c1.lt
 have d2:=c2.below b34 c2.lt
 have d3:=c3.below b4 c3.lt
 have H4:=H.keep b14
 have hs4:W.heap.size≤A4.heap.size:=b14.size
 rw[hs] at hdbl
 have HC:=Hi (ckdleaf_any (cb:=s) (vb:=s+1+1+1) (lb:=s+1+1) D hul A4 H4 d1 d3 ⟨by omega,by omega⟩)
 have HS:=Hi hs4
 have HB:=Hi (show Below W.heap.size W A4 from b14)
 have p0:A4.cell? ⟨s+1,0,none⟩=some (.int .i64 (-1)):=d2.cell 0
 have p1:A4.cell? ⟨s+1,1,none⟩=some (.int .i64 (sq:Int)):=d2.cell 1
 have p2:A4.cell? ⟨s+1,2,none⟩=some (.int .i64 0):=d2.cell 2
 have p3:A4.cell? ⟨s+1,3,none⟩=some (.int .i64 16777216):=d2.cell 3
 have q0:A4.cell? ⟨s+1+1+1,0,none⟩=some (.func (.func 114) #[] #[.pointer (some ⟨s,0,none⟩),.pointer (some ⟨s+1+1+1,0,none⟩),.pointer (some ⟨s+1+1,0,none⟩)]):=c4.cell 0
 have HS4:=Hi hA4
 have HVF:=Hi hvf
 have HSS:=Hi hs
 clear d1 d2 d3 c1 c2 c3 c4 c0 b1 b2 b3 b4 b34 b24 b14 H4 hA4 hvf H hs4 hul D
 go_enter Tryz.func72,Tryz.ntmps72
 go_upto_region 3 with (fail)
 have e4:B4.setCell ⟨s+1+1+1,0,none⟩ (.func (.func 114) #[] #[.pointer (some ⟨s,0,none⟩),.pointer (some ⟨s+1+1+1,0,none⟩),.pointer (some ⟨s+1+1,0,none⟩)])=A4:=by rw[HVF.out];exact HS4.out
 rw[e4]
 clear hA1 hA2 hA3 hB4 s1 s2 s3 e4 y0 y1 hs
 go_wp2_with fail
 refine HC.out.mono ?_
 rintro e w1 ⟨rfl,⟨A,c,h1,h2,h3⟩,h4,h5,h6,h7,h8⟩
 have HR:=Hi (show (∃A c,Cs w1 db 87 #[.slice A n.es.length c]∧Reads w1 A (ev n.es)∧∀p,A=some p→W.heap.size≤p.block)∧CkIn w1 C k ws∧Cs w1 cl 55 #[.pointer (some ⟨C,0,none⟩)]∧SnIn w1 k.ms len (fun w=>if w=u then some n.es.length else none)∧Seen w1 k.mt 1 [(u:Int)]∧Fr (fun j=>j=db∨j=k.ms∨j=k.mt) W w1 from ⟨⟨A,c,h1,h2,fun p hp=>Nat.le_trans HS.out (h3 p hp)⟩,h4,h5,h6,h7,(Fr.of_below HB.out).trans h8⟩)
 clear h1 h2 h3 h4 h5 h6 h7 h8
 go_wp2_with fail
 go_ret
 exact ⟨rfl,HR.out⟩
end
section
open Go.RowKit
attribute [local go_sem] Oper.semAt_some
theorem ckvisit_any {C cb vb lb cl:Nat} {k:CK} {ws:List Nat} {rg len nt:Nat} {T:List Int} {N:Nat→Option Nd} {G:Gh} {sq0:Nat} (E:WkE k ws N G len sq0) (hT:∀x∈T,∀u n,N u=some n→G.K u=true→x≠(u:Int)) :
  ∀(l u:Nat) (n:Nd),N u=some n→n.lv=l→G.K u=true→(∀e∈G.E u,dOf e.2<k.da∧e.2 / 16777216 % 1048576≤k.ti∧e.2<18446744073709551616)→(G.E u).length≤1000000→VsOk C cb vb lb cl k ws rg len nt T N G u n:=by
 intro l
 induction l with
 |zero=>
  intro u n hn hl hk hE hL
  exact ckvisit_core E hn hk hE hL (fun q=>hT _ q u n hn hk rfl) (fun q=>absurd hl q)
 |succ l ih=>
  intro u n hn hl hk hE hL
  have ho:=(E.nd u n hn).2.2.2.2.2
  refine ckvisit_core E hn hk hE hL (fun q=>hT _ q u n hn hk rfl) (fun q e he m hm=>?_)
  obtain ⟨m',h1,h2,h3,-⟩:=ho.f.kid q e he
  rw[hm] at h1
  injection h1 with h1
  subst h1
  refine ih e.2 m hm (by omega) (by rw[h3];exact hk) (fun x hx=>hE x ?_) ?_
  ·rw[ho.e]
   exact kid_E q he hx
  ·obtain ⟨i,hi,rfl⟩:=List.mem_iff_getElem.1 he
   have:=kid_len (G:=G) q hi
   rw[List.getElem?_eq_getElem hi,←ho.e] at this
   exact Nat.le_trans this hL
theorem ckwalk_any {C cl:Nat} {k:CK} {ws:List Nat} {rg len nt:Nat} {T:List Int} {N:Nat→Option Nd} {G:Gh} {sq0 u:Nat} {n:Nd} (E:WkE k ws N G len sq0) (hT:∀x∈T,∀u n,N u=some n→G.K u=true→x≠(u:Int)) (hn:N u=some n) (hk:G.K u=true)
  (hE:∀e∈G.E u,dOf e.2<k.da∧e.2 / 16777216 % 1048576≤k.ti∧e.2<18446744073709551616) (hL:(G.E u).length≤1000000) (W:World) (f:Nat→Option Nat) (rl:List Nat) (lv:Int) (sq:Nat) (lo hi:Int) (H:VkIn W C cl k ws rg rl len f nt T) (hv:VI N G len f rl) (hp:PlOk n lv sq) (hr:∀y∈G.A u,lo≤y∧y<hi) :
  Calls Tryz.prog 72 #[.pointer (some ⟨C,0,none⟩),.int .u64 (u:Int),.agg #[.int .i64 lv,.int .i64 (sq:Int),.int .i64 lo,.int .i64 hi],.func (.func 77) #[] #[.pointer (some ⟨cl,0,none⟩)]] W fun e w'=>e=.returned (.int .i64 ((G.E u).length:Int))∧∃f' rl',VkIn w' C cl k ws rg rl' len f' nt T∧VI N G len f' rl'∧f' u≠none∧(∀x,f x≠none→f' x≠none)∧Fr (fun j=>j=rg∨j=k.ms) W w':=by
 have hlow:=H.lt
 obtain ⟨A1,hA1⟩ :∃q,W.alloc (.cells #[.pointer (some ⟨C,0,none⟩)] 55)=q:=⟨_,rfl⟩
 obtain ⟨A2,hA2⟩ :∃q,A1.alloc (.cells #[.int .i64 lv,.int .i64 (sq:Int),.int .i64 lo,.int .i64 hi] 116)=q:=⟨_,rfl⟩
 obtain ⟨A3,hA3⟩ :∃q,A2.alloc (.cells #[.func (.func 77) #[] #[.pointer (some ⟨cl,0,none⟩)]] 121)=q:=⟨_,rfl⟩
 obtain ⟨s,hs⟩ :∃q,W.heap.size=q:=⟨_,rfl⟩
 obtain ⟨B4,hB4⟩ :∃q,A3.alloc (.cells #[.nilFunc] 173)=q:=⟨_,rfl⟩
 obtain ⟨vf,hvf⟩ :∃q:Value,.func (.func 114) #[] #[.pointer (some ⟨s,0,none⟩),.pointer (some ⟨s+1+1+1,0,none⟩),.pointer (some ⟨s+1+1,0,none⟩)]=q:=⟨_,rfl⟩
 obtain ⟨A4,hA4⟩ :∃q,B4.setCell ⟨s+1+1+1,0,none⟩ vf=q:=⟨_,rfl⟩
 have s1:A1.heap.size=s+1:=by rw[←hA1,←hs];simp
 have s2:A2.heap.size=s+1+1:=by rw[←hA2,←s1];simp
 have s3:A3.heap.size=s+1+1+1:=by rw[←hA3,←s2];simp
 have b1:Below W.heap.size W A1:=by rw[←hA1];exact (Below.refl _ W).alloc (Nat.le_refl _) _
 have b2:Below A1.heap.size A1 A2:=by rw[←hA2];exact (Below.refl _ A1).alloc (Nat.le_refl _) _
 have b3:Below A2.heap.size A2 A3:=by rw[←hA3];exact (Below.refl _ A2).alloc (Nat.le_refl _) _
 have b4:Below A3.heap.size A3 A4:=by
  rw[←hA4,←hB4]
  exact ((Below.refl _ A3).alloc (Nat.le_refl _) _).setCell (by show A3.heap.size≤s+1+1+1;omega) _
 have b34:=b3.trans (b4.mono b3.size)
 have b24:=b2.trans (b34.mono b2.size)
 have b14:=b1.trans (b24.mono b1.size)
 have c1:=Cs.new W 55 #[.pointer (some ⟨C,0,none⟩)]
 rw[hA1,hs] at c1
 have c2:=Cs.new A1 116 #[.int .i64 lv,.int .i64 (sq:Int),.int .i64 lo,.int .i64 hi]
 rw[hA2,s1] at c2
 have c3:=Cs.new A2 121 #[.func (.func 77) #[] #[.pointer (some ⟨cl,0,none⟩)]]
 rw[hA3,s2] at c3
 have c0:=Cs.new A3 173 #[.nilFunc]
 rw[hB4,s3] at c0
 have c4:Cs A4 (s+1+1+1) 173 #[vf]:=by rw[←hA4];exact heap_setCell_same _ _ 0 _ _ vf c0
 rw[←hvf] at c4
 have y0:B4.cell? ⟨s+1+1+1,0,none⟩=some .nilFunc:=c0.cell 0
 have y1:=c0.free 0
 have d1:=c1.below b24 c1.lt
 have d2:=c2.below b34 c2.lt
 have d3:=c3.below b4 c3.lt
 have H4:=H.keep b14
 rw[hs] at hlow
 have HV4:VsIn A4 C s (s+1+1+1) (s+1+1) cl k ws rg rl len f nt T:=⟨H4.box d1 (by omega) (by omega),c4,d3,H4.bx,by omega,by omega,by omega,by omega,fun e=>H.a1.2.1 e.symm,fun e=>H.a2.2.1 e.symm⟩
 have HC:=Hi (ckvisit_any E hT n.lv u n hn rfl hk hE hL A4 f rl lv sq lo hi HV4 hv hp hr)
 have HH:=Hi H
 have HB:=Hi (show Below W.heap.size W A4 from b14)
 have p0:A4.cell? ⟨s+1,0,none⟩=some (.int .i64 lv):=d2.cell 0
 have p1:A4.cell? ⟨s+1,1,none⟩=some (.int .i64 (sq:Int)):=d2.cell 1
 have p2:A4.cell? ⟨s+1,2,none⟩=some (.int .i64 lo):=d2.cell 2
 have p3:A4.cell? ⟨s+1,3,none⟩=some (.int .i64 hi):=d2.cell 3
 have q0:A4.cell? ⟨s+1+1+1,0,none⟩=some (.func (.func 114) #[] #[.pointer (some ⟨s,0,none⟩),.pointer (some ⟨s+1+1+1,0,none⟩),.pointer (some ⟨s+1+1,0,none⟩)]):=c4.cell 0
 have HS4:=Hi hA4
 have HVF:=Hi hvf
 clear d1 d2 d3 c1 c2 c3 c4 c0 b1 b2 b3 b4 b34 b24 b14 H4 HV4 hA4 hvf E hT hn hk hE hL H hv hp hr hlow
 go_enter Tryz.func72,Tryz.ntmps72
 go_upto_region 3 with (fail)
 have e4:B4.setCell ⟨s+1+1+1,0,none⟩ (.func (.func 114) #[] #[.pointer (some ⟨s,0,none⟩),.pointer (some ⟨s+1+1+1,0,none⟩),.pointer (some ⟨s+1+1,0,none⟩)])=A4:=by rw[HVF.out];exact HS4.out
 rw[e4]
 clear hA1 hA2 hA3 hB4 s1 s2 s3 e4 y0 y1
 go_wp2_with fail
 refine HC.out.mono ?_
 rintro e w1 ⟨rfl,f1,rl1,hs1,hv1,hf1,hu1,hfr1⟩
 have HR:=Hi (show∃f' rl',VkIn w1 C cl k ws rg rl' len f' nt T∧VI N G len f' rl'∧f' u≠none∧(∀x,f x≠none→f' x≠none)∧Fr (fun j=>j=rg∨j=k.ms) W w1 from ⟨f1,rl1,hs1.v.box hs1.bc hs1.a3.2.2.2.2.1 hs1.a3.2.2.2.2.2,hv1,hf1,hu1,(Fr.of_below HB.out).trans hfr1⟩)
 clear hs1 hv1 hf1 hu1 hfr1
 go_wp2_with fail
 go_ret
 exact ⟨rfl,HR.out⟩
end
section
open Go.RowKit
attribute [local go_sem] Oper.semAt_some
theorem cmpkey_any (W:World) (k1 k2:Int) (v1 v2:Nat) (h1:0≤k1∧k1<16777216) (h2:0≤k2∧k2<16777216) :
  Calls Tryz.prog 76 #[.agg #[.int .i64 k1,.int .u64 (v1:Int)],.agg #[.int .i64 k2,.int .u64 (v2:Int)]] W fun e w'=>e=.returned (.int .i64 (k1 - k2))∧Below W.heap.size W w':=by
 have e1:IntKind.i64.wrap (k1 - k2)=k1 - k2:=IntWalk.i64_in _ (by omega)
 go_enter Tryz.func76,Tryz.ntmps76
 go_wp2_with fail
 go_ret
 exact ⟨rfl,((Below.refl _ W).alloc (Nat.le_refl _) _).alloc (by simp) _⟩
theorem inssort_any (W:World) (A:Option Addr) (n c:Nat) (l:List (Int × Nat)) (hl:l.length=n) (hA:Reads W A (ev l)) (ha:AscE l) (hr:∀e∈l,0≤e.1∧e.1<16777216) (hn:n≤19) :
  Calls Tryz.prog 141 #[.slice A n c,.int .i64 0,.int .i64 (n:Int),.func (.func 76) #[] #[]] W fun e w'=>e=.returned (.tuple #[])∧Below W.heap.size W w':=by
 have HL:=Hi hl
 have HA:=Hi hA
 have HAS:=Hi ha
 have HR:=Hi hr
 clear hl hA ha hr
 go_enter Tryz.func141,Tryz.ntmps141
 go_wp2_with fail
 go_loopw [8,9] (fun s8 _ wr=>∃i:Nat,i≤n∧s8=.int .i64 ((i+1:Nat):Int)∧Below W.heap.size W wr) (fun s8 _ _=>n+1 - (intOf s8).toNat)
 case atStart=>exact ⟨0,Nat.zero_le _,rfl,Below.refl _ _⟩
 case round=>
  obtain ⟨i,hi,rfl,hb⟩:=hrel
  by_cases hlt:i+1<n
  ·have d1:((i+1:Nat):Int)<(n:Int):=by omega
   have HB:=Hi hb
   obtain ⟨j,hj⟩ :∃q,i+1=q:=⟨_,rfl⟩
   have HJ:=Hi hj
   have hij:i<j:=by omega
   have hji:j≤i+1:=by omega
   have hi2:j - 1=i:=by omega
   rw[hj] at d1 hlt ⊢
   clear hb hj
   go_wp2_with fail
   go_loopw [9] (fun s9 wi=>s9=.int .i64 (j:Int)∧Below W.heap.size W wi) (fun _ _=>0)
   case atStart=>exact ⟨rfl,HB.out⟩
   case round=>
    obtain ⟨rfl,hbi⟩:=hrel
    have HBI:=Hi hbi
    obtain ⟨ab,ao,rfl,hal,hcl⟩:=(HA.out.keep hbi).e (by rw[HL.out];omega)
    obtain ⟨c0,c1⟩:=hcl j (by rw[HL.out];exact hlt)
    obtain ⟨c2,c3⟩:=hcl i (by rw[HL.out];omega)
    obtain ⟨k1,hk1⟩ :∃q,(l[j]?.getD (0,0)).1=q:=⟨_,rfl⟩
    obtain ⟨v1,hv1⟩ :∃q,(l[j]?.getD (0,0)).2=q:=⟨_,rfl⟩
    obtain ⟨k2,hk2⟩ :∃q,(l[i]?.getD (0,0)).1=q:=⟨_,rfl⟩
    obtain ⟨v2,hv2⟩ :∃q,(l[i]?.getD (0,0)).2=q:=⟨_,rfl⟩
    have hi1:j<l.length:=by rw[HL.out];exact hlt
    have hlt2:k2<k1:=by
     have h2:=List.pairwise_iff_getElem.1 HAS.out i j (by omega) hi1 (by omega)
     rw[←hk1,←hk2,List.getElem?_eq_getElem hi1,List.getElem?_eq_getElem (by omega:i<l.length)]
     exact h2
    have r1:0≤k1∧k1<16777216:=by
     rw[←hk1,getD_mem hi1]
     exact HR.out _ (List.getElem_mem _)
    have r2:0≤k2∧k2<16777216:=by
     rw[←hk2,getD_mem (by omega:i<l.length)]
     exact HR.out _ (List.getElem_mem _)
    rw[hk1] at c0
    rw[hv1] at c1
    rw[hk2] at c2
    rw[hv2] at c3
    have HCM:=Hi (fun w=>cmpkey_any w k1 k2 v1 v2 r1 r2)
    have g0:0<j:=by omega
    have g1:(0:Int)<(j:Int):=by omega
    have e1:IntKind.i64.wrap ((j:Int) - 1)=(i:Int):=by rw[IntWalk.i64_in _ (by omega)];omega
    have d3:¬k1 - k2<0:=by omega
    have HST:=Hi (fun w (hw:Below wr.heap.size wr w)=>(⟨(hw.cell (p:=⟨ab,ao+j * 2,none⟩) hal).trans c0,(hw.cell (p:=⟨ab,ao+j * 2+1,none⟩) hal).trans c1,(hw.cell (p:=⟨ab,ao+i * 2,none⟩) hal).trans c2,(hw.cell (p:=⟨ab,ao+i * 2+1,none⟩) hal).trans c3⟩ :w.cell? ⟨ab,ao+j * 2,none⟩=some (.int .i64 k1)∧w.cell? ⟨ab,ao+j * 2+1,none⟩=some (.int .u64 (v1:Int))∧w.cell? ⟨ab,ao+i * 2,none⟩=some (.int .i64 k2)∧w.cell? ⟨ab,ao+i * 2+1,none⟩=some (.int .u64 (v2:Int))))
    clear hcl hk1 hv1 hk2 hv2 hi1 hbi
    go_wp2_with fail
    have g4:(i:Int)<(n:Int):=by omega
    refine wp_region_scr [(true,0),(true,1),(true,2),(true,3),(true,4),(true,5),(true,6),(true,7),(true,8),(true,9),(true,10),(true,11),(true,12),(true,13),(false,14)] [15,16] 15 (by kernel_rfl) (by decide +kernel) (fun w=>w.cell? ⟨ab,ao+j * 2,none⟩=some (.int .i64 k1)∧w.cell? ⟨ab,ao+j * 2+1,none⟩=some (.int .u64 (v1:Int))∧w.cell? ⟨ab,ao+i * 2,none⟩=some (.int .i64 k2)∧w.cell? ⟨ab,ao+i * 2+1,none⟩=some (.int .u64 (v2:Int))) ⟨c0,c1,c2,c3⟩ ?_
    simp only[pickS,pickL,List.getElem?_toArray,List.getElem?_cons_zero,List.getElem?_cons_succ]
    iterate 14
     refine ⟨?_,Or.inl ⟨by rfl,fun W' hS'=>?_⟩,fun _ _ _ h=>h,?_⟩
     rotate_left
     ·obtain ⟨y0,y1,y2,y3⟩:=hS'
      go_simp
      with_reducible rfl
     simp only[Act.put,List.setIfInBounds_toArray,List.set_cons_zero,List.set_cons_succ]
    refine wpScr_step (fun K hK=>?_)
    go_simp
    go_at_call 76
    refine (HCM.out _).mono ?_
    rintro e w2 ⟨rfl,hb2⟩
    have hbw:Below wr.heap.size wr w2:=(Below.refl _ wr).drew.trans hb2
    have HB2:=Hi (HBI.out.trans (hbw.mono HBI.out.size))
    refine hK _ _ (HST.out _ hbw) ?_
    clear hK K hb2 hbw
    refine wpSeqL_list _ _ _ (by simp) ?_
    simp only[List.map_cons,List.map_nil]
    go_wp2_with fail
    go_roundw
    case rel=>exact ⟨i+1,by have:=HJ.out;omega,by rw[HJ.out];go_num,HB2.out⟩
    case measure=>have:=HJ.out;simp[intOf];omega
  ·have d1:¬((i+1:Nat):Int)<(n:Int):=by omega
   go_wp2_with fail
   exact bodyPost_end (results_none rfl _ _ _) rfl ⟨rfl,hb⟩
theorem stablesort_any (W:World) (A:Option Addr) (n c:Nat) (l:List (Int × Nat)) (hl:l.length=n) (hA:Reads W A (ev l)) (ha:AscE l) (hr:∀e∈l,0≤e.1∧e.1<16777216) (hn:n≤19) :
  Calls Tryz.prog 116 #[.slice A n c,.int .i64 (n:Int),.func (.func 76) #[] #[]] W fun e w'=>e=.returned (.tuple #[])∧Below W.heap.size W w':=by
 have HI:=Hi (inssort_any W A n c l hl hA ha hr hn)
 have d1:¬(20:Int)≤(n:Int):=by omega
 have d2:¬(20:Int)<(n:Int):=by omega
 clear hl hA ha hr
 go_enter Tryz.func116,Tryz.ntmps116
 go_wp2_with fail
 go_loopw [7,8] (fun s7 s8 wr=>s7=.int .i64 0∧s8=.int .i64 20∧wr=W) (fun _ _ _=>0)
 case atStart=>exact ⟨rfl,rfl,rfl⟩
 case round=>
  obtain ⟨rfl,rfl,rfl⟩:=hrel
  go_wp2_with fail
  refine HI.out.mono ?_
  rintro e w1 ⟨rfl,hb⟩
  have HB:=Hi hb
  clear hb HI
  go_wp2_with fail
  go_loopw [6,7,8,9] (fun s6 _ _ _ wr'=>s6=.int .i64 20∧wr'=w1) (fun _ _ _ _ _=>0)
  case atStart=>exact ⟨rfl,rfl⟩
  case round=>
   obtain ⟨rfl,rfl⟩:=hrel
   go_wp2_with fail
   exact bodyPost_end (results_none rfl _ _ _) rfl ⟨rfl,HB.out⟩
theorem sortdev_any (W:World) (A:Option Addr) (n c:Nat) (l:List (Int × Nat)) (hl:l.length=n) (hA:Reads W A (ev l)) (ha:AscE l) (hr:∀e∈l,0≤e.1∧e.1<16777216) (hn:n≤19) :
  Calls Tryz.prog 75 #[.slice A n c,.func (.func 76) #[] #[]] W fun e w'=>e=.returned (.tuple #[])∧Below W.heap.size W w':=by
 have HI:=Hi (stablesort_any W A n c l hl hA ha hr hn)
 clear hl hA ha hr
 go_enter Tryz.func75,Tryz.ntmps75
 go_wp2_with fail
 refine HI.out.mono ?_
 rintro e w1 ⟨rfl,hb⟩
 have HB:=Hi hb
 clear hb HI
 go_wp2_with fail
 exact bodyPost_end (results_none rfl _ _ _) rfl ⟨rfl,HB.out⟩
end
section
open Go.RowKit
section
variable {S:St} {Z:Nat→Bool} {t:Nat} {rts pd:List Nat} {G:Gh} {f:Nat→Option Nat} {rl:List Nat}
theorem seen_all (hI:Inv S Z (t :: rts) pd G) (kt:G.K t=false) (hv:VI (S.nd Z) G S.bl.now.length f rl) (hr:∀r∈rts,f r≠none) :
  ∀(k u:Nat) (n:Nd),S.nd Z u=some n→G.K u=true→8≤n.lv+k→f u≠none:=by
 intro k
 induction k with
 |zero=>
  intro u n hn hk hl
  obtain ⟨h1,h2,-⟩:=nd_count hn
  have hct:=hI.ct u h2
  have hlv:=(hI.nd u n hn).f.lv
  by_cases q:(t :: rts).count u=0
  ·have hrf:S.refs Z u≠0:=by omega
   have hex:¬∀w,w<S.bl.now.length→kidN (S.nd Z w) u=0:=fun q=>hrf ((sumR_zero _).2 q)
   exfalso
   apply hex
   intro w hw
   rcases hm:S.nd Z w with _|m
   ·rfl
   ·show (kids m).count u=0
    rw[List.count_eq_zero]
    intro hin
    have hl0:m.lv≠0:=fun q=>by unfold kids at hin;rw[if_pos q] at hin;cases hin
    unfold kids at hin
    rw[if_neg hl0] at hin
    obtain ⟨e,he,rfl⟩:=List.mem_map.1 hin
    obtain ⟨n',h3,h4,-⟩:=(hI.nd w m hm).f.kid hl0 e he
    rw[hn] at h3
    injection h3 with h3
    subst h3
    have:=(hI.nd w m hm).f.lv
    omega
  ·have hin:u∈t :: rts:=List.count_pos_iff.1 (by omega)
   rcases List.mem_cons.1 hin with e|e
   ·rw[e,kt] at hk;cases hk
   ·exact hr u e
 |succ k ih=>
  intro u n hn hk hl
  obtain ⟨h1,h2,-⟩:=nd_count hn
  have hct:=hI.ct u h2
  by_cases q:(t :: rts).count u=0
  ·have hrf:S.refs Z u≠0:=by omega
   have hex:¬∀w,w<S.bl.now.length→kidN (S.nd Z w) u=0:=fun q=>hrf ((sumR_zero _).2 q)
   intro hf
   apply hex
   intro w hw
   rcases hm:S.nd Z w with _|m
   ·rfl
   ·show (kids m).count u=0
    rw[List.count_eq_zero]
    intro hin
    have hin0:=hin
    have hl0:m.lv≠0:=fun q=>by unfold kids at hin;rw[if_pos q] at hin;cases hin
    unfold kids at hin
    rw[if_neg hl0] at hin
    obtain ⟨e,he,rfl⟩:=List.mem_map.1 hin
    obtain ⟨n',h3,h4,h5,-⟩:=(hI.nd w m hm).f.kid hl0 e he
    rw[hn] at h3
    injection h3 with h3
    subst h3
    have hkw:G.K w=true:=by rw[←h5];exact hk
    have hfw:=ih w m hm hkw (by omega)
    rcases hfv:f w with _|c
    ·exact hfw hfv
    ·obtain ⟨-,m',h6,h7⟩:=hv.val w c hfv hkw
     rw[hm] at h6
     injection h6 with h6
     subst h6
     exact h7 _ hin0 hf
  ·have hin:u∈t :: rts:=List.count_pos_iff.1 (by omega)
   rcases List.mem_cons.1 hin with e|e
   ·rw[e,kt] at hk;cases hk
   ·exact hr u e
theorem cnt_all (hI:Inv S Z (t :: rts) pd G) (kt:G.K t=false) (hv:VI (S.nd Z) G S.bl.now.length f rl) (hr:∀r∈rts,f r≠none) (d:Nat):S.da.count d=pd.count d+rl[d]?.getD 0:=by
 rw[hI.dt d,hv.cnt d]
 congr 1
 unfold St.drefs
 refine sumR_congr _ (fun w hw=>?_)
 by_cases q:f w=none
 ·rw[if_pos q]
  rcases hm:S.nd Z w with _|m
  ·rfl
  ·rcases hk:G.K w with _|_
   ·show (dats false m).count d=0
    simp[dats]
   ·exact absurd q (seen_all hI kt hv hr 8 w m hm hk (by omega))
 ·rw[if_neg q]
end
end
end Go.Proofs.YtplhdjdkobddnaaGreat
