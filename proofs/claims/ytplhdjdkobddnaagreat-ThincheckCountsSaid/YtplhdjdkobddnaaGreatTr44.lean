/- OkF OkG -/
import Derived.Test.YtplhdjdkobddnaaGreatTr41
import Derived.Test.YtplhdjdkobddnaaGreatTr43
set_option linter.unusedVariables false
set_option maxRecDepth 100000
set_option maxHeartbeats 40000000
namespace Go.Proofs.YtplhdjdkobddnaaGreat
section
open Go.RowKit
theorem commW_dv (m:Mt) (nb:Nat) (w:List Nat):(m.commW nb w).dv=m.dv∧(m.commW nb w).tree=m.tree:=⟨rfl,rfl⟩
theorem comm_dv (m:Mt) (nb:Nat):(m.comm nb).dv=m.dv∧(m.comm nb).tree=m.tree:=commW_dv m nb _
theorem commW_data (m:Mt) (nb:Nat) (w:List Nat):(m.commW nb w).data=m.data:=rfl
theorem comm_data (m:Mt) (nb:Nat):(m.comm nb).data=m.data:=commW_data m nb _
theorem rel_data (m:Mt) (k:Nat):(m.rel k).data=m.data:=rfl
theorem rel_dv (m:Mt) (k:Nat):(m.rel k).dv=m.dv∧(m.rel k).tree=m.tree:=⟨rfl,rfl⟩
structure MtY (m:Mt) (N:Nat):Prop where
 ex:∃G,MtX m m.dv N N 6 G
 pl:m.pe.length≤N
 dn:m.done=false→Cmd m
 id:∀d∈m.dv,1≤d.id∧d.id≤4
 lf:LeafT m
structure MtW (W:World) (n0 g c M:Nat) (m:Mt):Prop where
 ex:∃P:SP,P.w=g∧P.cw=c∧MtIn W (fun j=>n0≤j∧j≠M) M P m
 m0:n0≤M
 cl:m.ws.length=c
 dt:m.data≤128
section
variable {W w':World} {n0 g c M:Nat} {m m':Mt} {P:SP} {N N':Nat} {F:Nat→Prop}
theorem MtW.lt (h:MtW W n0 g c M m):M<W.heap.size:=by
 obtain ⟨P,_,_,h3⟩:=h.ex
 exact h3.lt
theorem MtW.fr (h:MtW W n0 g c M m) {G:Nat→Prop} (hf:Fr G W w') (hG:∀j,G j→j<n0):MtW w' n0 g c M m:=by
 obtain ⟨P,h1,h2,h3⟩:=h.ex
 exact ⟨⟨P,h1,h2,h3.fr hf (fun j hj q=>by have:=hG j q;omega) (fun q=>by have:=hG M q;have:=h.m0;omega)⟩,h.m0,h.cl,h.dt⟩
theorem MtW.keep (h:MtW W n0 g c M m) (hb:Below W.heap.size W w'):MtW w' n0 g c M m:=h.fr (G:=fun _=>False) (Fr.of_below hb) (fun _ q=>q.elim)
theorem MtW.next {P':SP} (h0:n0≤M) (h:MtIn W (fun j=>n0≤j∧j≠M) M P m) (hi:MtIn w' (FN (fun j=>n0≤j∧j≠M) W) M P' m') (hf:Fr (fun j=>P.has j∨j=M) W w') (h1:P'.w=g) (h2:P'.cw=c) (hl:m'.ws.length=c) (hd:m'.data≤128):MtW w' n0 g c M m'∧Below n0 W w':=by
 have hM:=h.lt
 have hb:n0≤W.heap.size:=by omega
 refine ⟨⟨⟨P',h1,h2,hi.wide (fun j hj _=>?_) (fun j hj=>?_) (fun q=>q.2 rfl)⟩,h0,hl,hd⟩,hf.below hb (fun j hj=>?_)⟩
 ·rcases hj with q|q
  ·exact q
  ·exact ⟨by omega,by omega⟩
 ·rcases hi.st.inF j hj with q|q
  ·exact q
  ·exact ⟨by omega,by omega⟩
 ·rcases hj with q|q
  ·exact (h.st.inF j q).1
  ·omega
theorem MtY.up (h:MtY m N) (hN:N≤N') (h1:N'≤100):MtY m N':=by
 obtain ⟨G,hx⟩:=h.ex
 exact ⟨⟨G,hx.up hN h1 hN h1⟩,Nat.le_trans h.pl hN,h.dn,h.id,h.lf⟩
theorem srt_len:∀(l:List Dv) (a b:Nat),SrtD l→(∀d∈l,a<d.id∧d.id≤b)→l.length≤b - a:=by
 intro l
 induction l with
 |nil=>intro a b _ _;exact Nat.zero_le _
 |cons d l ih=>
  intro a b hs hb
  have h2:=List.pairwise_cons.1 hs
  have hd:=hb d List.mem_cons_self
  have:=ih d.id b h2.2 (fun x hx=>⟨h2.1 x hx,(hb x (List.mem_cons_of_mem _ hx)).2⟩)
  rw[List.length_cons]
  omega
theorem MtY.len (h:MtY m N):m.dv.length≤4:=by
 obtain ⟨G,hx⟩:=h.ex
 have:=srt_len m.dv 0 4 hx.srt (fun d hd=>by have:=h.id d hd;omega)
 omega
theorem MtY.srt (h:MtY m N):SrtD m.dv:=by
 obtain ⟨G,hx⟩:=h.ex
 exact hx.srt
theorem ins_ids (h:SrtD m.dv) (hi:∀d∈m.dv,1≤d.id∧d.id≤4) {d:Dv} (h1:1≤d.id) (h2:d.id≤4):∀x∈insF m.dv d,1≤x.id∧x.id≤4:=by
 intro x hx
 rcases insF_mem h hx with rfl| ⟨q,_⟩
 ·exact ⟨h1,h2⟩
 ·exact hi x q
theorem ins_len64 (h:MtY m N) (d:Dv):(insF m.dv d).length≤64:=by
 have:=insF_len h.srt d
 have:=h.len
 omega
theorem step_create (h:MtW W n0 g c M m) (hy:MtY m N) (hN:N+1≤59) (id:Nat) (h1:1≤id) (h4:id≤4) :
  Calls Tryz.prog 37 #[.pointer (some ⟨M,0,none⟩),.int .i64 (id:Int)] W fun e w'=>∃(v:Int) (m':Mt),e=.returned (.int .i64 v)∧MtW w' n0 g c M m'∧MtY m' (N+1)∧Below n0 W w':=by
 obtain ⟨P,e1,e2,hi⟩:=h.ex
 by_cases hE:m.createE id=0
 ·obtain ⟨G,hx⟩:=hy.ex
  obtain ⟨b,t,S',old,had,G',p1,p2,p3,p4,p5⟩:=create_ok hx (by omega) hE (by omega) (by omega)
  have htl:=hx.tl
  refine (rcreate27_ok W _ M P m hi id (by omega) hE p1 (by omega) (by omega) (p3 P) (ins_len64 hy _)).mono ?_
  rintro e w' ⟨rfl,hr⟩
  obtain ⟨q1,q2⟩:=MtW.next h.m0 hi hr.si hr.fr e1 e2 h.cl h.dt
  exact ⟨0,_,rfl,q1,⟨⟨G',p4⟩,Nat.le_succ_of_le hy.pl,fun q=>Bool.noConfusion (show true=false from q),ins_ids hy.srt hy.id h1 h4,p5 hy.lf (by have:=hy.len;omega)⟩,q2⟩
 ·refine (rcreate27_no W _ M P m hi id (by omega) hE).mono ?_
  rintro e w' ⟨rfl,rfl⟩
  exact ⟨_,m,rfl,h,hy.up (Nat.le_succ _) (by omega),Below.refl _ _⟩
theorem step_snap (h:MtW W n0 g c M m) (hy:MtY m N) (hN:N+1≤59) (id org:Nat) (h1:1≤id) (h4:id≤4) (ho:org≤4) :
  Calls Tryz.prog 38 #[.pointer (some ⟨M,0,none⟩),.int .i64 (id:Int),.int .i64 (org:Int)] W fun e w'=>∃(v:Int) (m':Mt),e=.returned (.int .i64 v)∧MtW w' n0 g c M m'∧MtY m' (N+1)∧Below n0 W w':=by
 obtain ⟨P,e1,e2,hi⟩:=h.ex
 obtain ⟨G,hx⟩:=hy.ex
 have htl:=hx.tl
 by_cases hE:m.snapE id org=0
 ·obtain ⟨t,S',old,had,G',p1,pin,p3,p4,p5⟩:=snap_ok hx (by omega) hE (by omega) (by omega)
  have hv:=hx.val_lt pin
  refine (rsnap27_ok W _ M P m hi id org (by omega) (by omega) hE p1 hv.2.1 hv.2.2.2 hv.2.2.1 (p3 P) (ins_len64 hy _)).mono ?_
  rintro e w' ⟨rfl,hr⟩
  obtain ⟨q1,q2⟩:=MtW.next h.m0 hi hr.si hr.fr e1 e2 h.cl h.dt
  exact ⟨0,_,rfl,q1,⟨⟨G',p4⟩,Nat.le_succ_of_le hy.pl,fun q=>Bool.noConfusion (show true=false from q),ins_ids hy.srt hy.id h1 h4,p5 hy.lf (by have:=hy.len;omega)⟩,q2⟩
 ·refine (rsnap27_no W _ M P m hi id org (by omega) (by omega) (by omega) hE).mono ?_
  rintro e w' ⟨rfl,rfl⟩
  exact ⟨_,m,rfl,h,hy.up (Nat.le_succ _) (by omega),Below.refl _ _⟩
theorem step_delete (h:MtW W n0 g c M m) (hy:MtY m N) (hN:N+1≤59) (id:Nat) (h4:id≤4) :
  Calls Tryz.prog 39 #[.pointer (some ⟨M,0,none⟩),.int .i64 (id:Int)] W fun e w'=>∃(v:Int) (m':Mt),e=.returned (.int .i64 v)∧MtW w' n0 g c M m'∧MtY m' (N+1)∧Below n0 W w':=by
 obtain ⟨P,e1,e2,hi⟩:=h.ex
 obtain ⟨G,hx⟩:=hy.ex
 by_cases hE:m.delE id=0
 ·obtain ⟨S1,S2,t,old,G',p1,p2,p3,p4,p5⟩:=delete27_ok hx (by omega) hE (by omega) (by omega)
  refine (rdelete27_ok W _ M P m hi id (by omega) hE (p1 P) (p2 P)).mono ?_
  rintro e w' ⟨rfl,hr⟩
  obtain ⟨q1,q2⟩:=MtW.next h.m0 hi hr.si hr.fr e1 e2 h.cl h.dt
  refine ⟨0,_,rfl,q1,⟨⟨G',p3.up (Nat.le_succ _) (by omega) (Nat.le_refl _) (by omega)⟩,Nat.le_succ_of_le hy.pl,fun q=>Bool.noConfusion (show true=false from q),fun d hd=>?_,p4 hy.lf⟩,q2⟩
  rw[p5] at hd
  exact hy.id d (List.mem_filter.1 hd).1
 ·refine (rdelete27_no W _ M P m hi id (by omega) hE).mono ?_
  rintro e w' ⟨rfl,rfl⟩
  exact ⟨_,m,rfl,h,hy.up (Nat.le_succ _) (by omega),Below.refl _ _⟩
theorem step_alloc (h:MtW W n0 g c M m) (hy:MtY m N) (hN:N+1≤59) :
  Calls Tryz.prog 40 #[.pointer (some ⟨M,0,none⟩)] W fun e w'=>∃(d:Nat) (v:Int) (m':Mt),e=.returned (.tuple #[.int .i64 (d:Int),.int .i64 v])∧MtW w' n0 g c M m'∧Below n0 W w'∧((v=14∧MtY m' N)∨(v=0∧d∈m'.pe∧d<m'.data∧(∃G,MtX m' m'.dv N N 6 G)∧m'.pe.length≤N+1∧m'.done=true∧(∀d∈m'.dv,1≤d.id∧d.id≤4)∧LeafT m')):=by
 obtain ⟨P,e1,e2,hi⟩:=h.ex
 obtain ⟨G,hx⟩:=hy.ex
 have hpl:=hy.pl
 cases hp:m.S.da.pick with
 |none=>
  refine (ralloc27_none W _ M P m hi hp).mono ?_
  rintro e w' ⟨rfl,hr⟩
  obtain ⟨q1,q2⟩:=MtW.next h.m0 hi hr.si hr.fr e1 e2 h.cl h.dt
  exact ⟨0,14,m,rfl,q1,q2,.inl ⟨rfl,hy⟩⟩
 |some d=>
  have hd:=(Mp.pick_some hp).1
  refine (ralloc27_some W _ M P m hi hp (by omega)).mono ?_
  rintro e w' ⟨rfl,hr⟩
  obtain ⟨q1,q2⟩:=MtW.next h.m0 hi hr.si hr.fr e1 e2 h.cl h.dt
  refine ⟨d,0,_,rfl,q1,q2,.inr ⟨rfl,List.mem_append_right _ List.mem_cons_self,by rw[hx.dn] at hd;exact hd,⟨G,alloc_ok hx hp (by omega)⟩,?_,rfl,hy.id,hy.lf⟩⟩
  show (m.pe++ [d]).length≤N+1
  simp
  omega
theorem step_map (h:MtW W n0 g c M m) (hx0:∃G,MtX m m.dv N N 6 G) (hpl:m.pe.length≤N+1) (hdn:m.done=true) (hid:∀d∈m.dv,1≤d.id∧d.id≤4) (hlf:LeafT m) (hN:N+1≤59) (id b d:Nat) (h1:1≤id) (h4:id≤4) (hb:b≤16777215) (hd:d<m.data) (hpe:d∈m.pe) :
  Calls Tryz.prog 41 #[.pointer (some ⟨M,0,none⟩),.int .i64 (id:Int),.int .i64 (b:Int),.int .i64 (d:Int)] W fun e w'=>∃(v:Int) (m':Mt),e=.returned (.int .i64 v)∧MtW w' n0 g c M m'∧Below n0 W w'∧MtY m' (N+1)∧(v≠0→d∈m'.pe∧d<m'.data):=by
 obtain ⟨P,e1,e2,hi⟩:=h.ex
 obtain ⟨G,hx⟩:=hx0
 have hyy:MtY m (N+1):=⟨⟨G,hx.up (Nat.le_succ _) (by omega) (Nat.le_succ _) (by omega)⟩,hpl,(fun q=>by rw[hdn] at q;cases q),hid,hlf⟩
 by_cases hE:m.mapE id b d=0
 ·obtain ⟨t1,t2,S1,S3,old,old2,had,had2,G',p1,p2,p3,p4,p5,p6,p7,p8,p9,p10,p11⟩:=map_ok hx (by omega) hE (by omega) (by omega)
  refine (rmap27_ok W _ M P m hi id b d (by omega) hE p1 p2 p3 p4 p5 p6 (p7 P) p8 (p9 P) (ins_len64 hyy _)).mono ?_
  rintro e w' ⟨rfl,hr⟩
  obtain ⟨q1,q2⟩:=MtW.next h.m0 hi hr.si hr.fr e1 e2 h.cl h.dt
  refine ⟨0,_,rfl,q1,q2,⟨⟨G',p10⟩,?_,fun q=>Bool.noConfusion (show true=false from q),ins_ids hyy.srt hid h1 h4,p11 hlf (by have:=hyy.len;omega)⟩,fun q=>absurd rfl q⟩
  show (m.pe.erase d).length≤N+1
  exact Nat.le_trans List.length_erase_le hpl
 ·refine (rmap27_no W _ M P m hi id b d (by omega) hb hd hpe hE).mono ?_
  rintro e w' ⟨rfl,rfl⟩
  exact ⟨_,m,rfl,h,Below.refl _ _,hyy,fun _=>⟨hpe,hd⟩⟩
theorem step_release (h:MtW W n0 g c M m) (hy:MtY m N) (d:Nat) (hd:d<m.data) (hpe:d∈m.pe) :
  Calls Tryz.prog 42 #[.pointer (some ⟨M,0,none⟩),.int .i64 (d:Int)] W fun e w'=>∃(v:Int) (m':Mt),e=.returned (.int .i64 v)∧MtW w' n0 g c M m'∧MtY m' N∧Below n0 W w':=by
 obtain ⟨P,e1,e2,hi⟩:=h.ex
 obtain ⟨G,hx⟩:=hy.ex
 refine (rrelease27_yes W _ M P m hi d hpe hd (hx.pe_lt hpe).2.2).mono ?_
 rintro e w' ⟨rfl,hr⟩
 obtain ⟨q1,q2⟩:=MtW.next h.m0 hi hr.si hr.fr e1 e2 h.cl h.dt
 exact ⟨0,_,rfl,q1,⟨⟨G,freed_ok hx hpe⟩,Nat.le_trans List.length_erase_le hy.pl,fun q=>Bool.noConfusion (show true=false from q),hy.id,hy.lf⟩,q2⟩
theorem step_unmap (h:MtW W n0 g c M m) (hy:MtY m N) (hN:N+1≤59) (id b:Nat) (h1:1≤id) (h4:id≤4) (hb:b≤16777215) :
  Calls Tryz.prog 43 #[.pointer (some ⟨M,0,none⟩),.int .i64 (id:Int),.int .i64 (b:Int)] W fun e w'=>∃(v:Int) (m':Mt),e=.returned (.int .i64 v)∧MtW w' n0 g c M m'∧MtY m' (N+1)∧Below n0 W w':=by
 obtain ⟨P,e1,e2,hi⟩:=h.ex
 obtain ⟨G,hx⟩:=hy.ex
 have hyu:=hy.up (Nat.le_succ N) (by omega)
 have hMl:=h.lt
 have h0:=h.m0
 cases h3:hasD m.dv id with
 |false=>
  refine (runmap27_dev W _ M P m hi id b (by omega) hb h3).mono ?_
  rintro e w' ⟨rfl,rfl⟩
  exact ⟨_,m,rfl,h,hyu,Below.refl _ _⟩
 |true=>
  obtain ⟨hin,hoid⟩:=dvAt_in hx h3
  obtain ⟨hasc,n,hn,-⟩:=E_asc hx hin
  have hlk:∀P ws,LookC P ws m.S (dvAt m.dv id).rt b (lookE (G.E (dvAt m.dv id).rt) (b:Int)) (m.S.shr (b:Int) n.lv (dvAt m.dv id).rt n):=fun P ws=>lookC_of hx.inv hn
  cases hl:lookE (G.E (dvAt m.dv id).rt) (b:Int) with
  |none=>
   rw[hl] at hlk
   refine (runmap27_none W _ M P m hi id b (by omega) hb h3 _ none rfl (hlk P _)).mono ?_
   rintro e w' ⟨rfl,hb'⟩
   exact ⟨_,m,rfl,h.keep hb',hyu,⟨hb'.os,hb'.tape,hb'.output,hb'.size,fun j hj=>hb'.block j (by omega)⟩⟩
  |some v0=>
   rw[hl] at hlk
   by_cases hf:m.S.bl.free<16
   ·refine (runmap27_room W _ M P m hi id b (by omega) hb h3 _ (some v0) rfl (hlk P _) hf).mono ?_
    rintro e w' ⟨rfl,hb'⟩
    exact ⟨_,m,rfl,h.keep hb',hyu,⟨hb'.os,hb'.tape,hb'.output,hb'.size,fun j hj=>hb'.block j (by omega)⟩⟩
   ·obtain ⟨t1,t2,S1,S3,old2,had2,G',p1,p2,p3,p4,p5,p6,p7,p8,p9,p10⟩:=unmap_ok hx (by omega) hb h3 hl (by omega) (by omega) (by omega)
    refine (runmap27_ok W _ M P m hi id b (by omega) hb h3 _ (some v0) rfl (hlk P _) (by omega) p1 p2 p3 p4 p5 (p6 P) p7 (p8 P) (ins_len64 hy _)).mono ?_
    rintro e w' ⟨rfl,hr⟩
    obtain ⟨q1,q2⟩:=MtW.next h.m0 hi hr.si hr.fr e1 e2 h.cl h.dt
    exact ⟨0,_,rfl,q1,⟨⟨G',p9⟩,Nat.le_succ_of_le hy.pl,fun q=>Bool.noConfusion (show true=false from q),ins_ids hy.srt hy.id h1 h4,p10 hy.lf (by have:=hy.len;omega)⟩,q2⟩
theorem step_commit (h:MtW W n0 g c M m) (hy:MtY m N) (hN:N+1≤100) :
  Calls Tryz.prog 44 #[.pointer (some ⟨M,0,none⟩)] W fun e w'=>∃(v:Int) (m':Mt),e=.returned (.int .i64 v)∧MtW w' n0 g c M m'∧MtY m' (N+1)∧Cmd m'∧Below n0 W w'∧(m.done=false→m'=m):=by
 obtain ⟨P,e1,e2,hi⟩:=h.ex
 obtain ⟨G,hx⟩:=hy.ex
 cases hd:m.done with
 |false=>
  refine (rcommit27_idle W _ M P m hi hd).mono ?_
  rintro e w' ⟨rfl,rfl⟩
  exact ⟨0,m,rfl,h,hy.up (Nat.le_succ _) hN,hy.dn hd,Below.refl _ _,fun _=>rfl⟩
 |true=>
  obtain ⟨nb,hc⟩:=comp_ok hx hd
  refine (rcommit27_ok W _ M P m hi nb hc).mono ?_
  rintro e w' ⟨rfl,P',p1,p2,hin,hfr⟩
  have hr:=rel_ok hx hd m.pe.length (Nat.le_refl _)
  have hwl:((m.rel m.pe.length).comm nb).ws.length=c:=by
   rw[comm_ws]
   exact (comm_words hr hc.pk).2.2.1.trans h.cl
  obtain ⟨q1,q2⟩:=MtW.next h.m0 hi hin hfr (p1.trans e1) (p2.trans e2) hwl (by rw[comm_data,rel_data];exact h.dt)
  have hpe:(m.rel m.pe.length).pe= []:=List.drop_length
  have hw:=hin.st.w64
  rw[comm_ws] at hw
  obtain ⟨k1,k2,k3⟩:=comm_ok (nb:=nb) hr hpe hc.pk (fun u n hn=>by
   obtain ⟨_,D,_,_,_,hD⟩:=hi.st.ch
   obtain ⟨v,_,_,A,c2,_,_,_,_,h6,_⟩:=(hD (u:Int)).1 u rfl n hn
   exact h6) hw hN
  have hdv:((m.rel m.pe.length).comm nb).dv=m.dv:=(comm_dv _ _).1.trans (rel_dv _ _).1
  have htr:((m.rel m.pe.length).comm nb).tree=m.tree:=(comm_dv _ _).2.trans (rel_dv _ _).2
  obtain ⟨mm,hmm⟩ :∃q,(m.rel m.pe.length).comm nb=q:=⟨_,rfl⟩
  rw[hmm] at q1 k1 k2 k3 hdv htr
  have hpl:mm.pe.length≤N+1:=by rw[k2.pe];exact Nat.zero_le _
  refine ⟨0,mm,rfl,q1,⟨⟨G,k1.up (Nat.le_refl _) hN (Nat.le_succ _) hN⟩,hpl,fun _=>k2,by rw[hdv];exact hy.id,?_⟩,k2,q2,fun q=>Bool.noConfusion q⟩
  obtain ⟨n1,g1,g2⟩:=hy.lf
  obtain ⟨n2,g3,-⟩:=hx.rt.ex
  have g4:=(nd_count g3).2.2
  rw[g1] at g4
  cases g4
  have g5:mm.S.nd (zM m.data nb) m.tree=some n1:=(k3 m.tree).trans g3
  refine ⟨n1,?_,g2⟩
  rw[htr]
  exact (nd_count g5).2.2
end
end
section
open Go.RowKit
theorem cw_fields (r s:Nat) (hr:r<1048576) (hs:s<16777216):cwW r s % 1048576=r∧cwW r s / 1048576 % 16777216=s:=by
 unfold cwW
 have hl:=sum1_lt (cwB r s)
 generalize sum1 (cwB r s)=x at hl
 unfold cwB
 omega
theorem cwOk_W (r s:Nat) (hr:r<1048576) (hs:s<16777216):cwOk (cwW r s)=true:=by
 unfold cwOk
 rw[(cw_fields r s hr hs).1,(cw_fields r s hr hs).2]
 exact decide_eq_true rfl
theorem W64.set0 {l:List Nat} (h:W64 l) {v:Nat} (hv:v<18446744073709551616):W64 (l.set 0 v):=fun x hx=>by
 rcases List.mem_or_eq_of_mem_set hx with q|q
 ·exact h x q
 ·rw[q];exact hv
theorem room_aux (q n:Nat) (h:(2 * q+49) * 16≤n):(2 * q+1+1) * 16≤n∧(2 * q+2+1) * 16≤n:=by omega
theorem valid_nil:validN 0 0 []=0:=by decide
theorem fm_new {ws:List Nat} {data chunk:Nat} (h64:W64 ws) (h1:1≤data) (h2:data≤16384) (c1:1≤chunk) (c2:chunk≤64) (hsz:(2 * arB data+49) * 16≤ws.length) (hwl:ws.length≤1000000) :
  NewW (fmW ws data chunk) data chunk∧(fmW ws data chunk)[0]?.getD 0=cwW (2 * arB data+2) 0∧arOf (fmW ws data chunk) data 0=arW (List.replicate data 0):=by
 have hab:arB data≤257∧1≤arB data:=by unfold arB;omega
 have har0:arAt data 0=16:=by unfold arAt;omega
 obtain ⟨a,ha⟩ :∃a,arB data=a:=⟨_,rfl⟩
 have hl1:=fmW1_len ws data
 have hl2:=fmW2_len ws data
 have hl3:=fmW3_len ws data chunk
 have hl4:=fmW_len ws data chunk
 have hrt:=(rt_facts (2 * arB data+2) 0 (2 * arB data+1) 0 data chunk 0 (shortC (extendC 0 (arZ data))) (by omega)).1
 have hrw:W64 (rtW (2 * arB data+2) 0 (2 * arB data+1) 0 data chunk 0 (shortC (extendC 0 (arZ data)))):=by
  have hs16:=shortC_lt (extendC 0 (arZ data))
  generalize shortC (extendC 0 (arZ data))=sm at hs16
  exact rtW_w _ _ _ _ _ _ _ _ (by omega) (by omega) (by omega) (by omega) (by omega) (by omega) (by omega)
 have hcw:=cwW_lt (2 * arB data+2) 0
 have hcf:=cw_fields (2 * arB data+2) 0 (by omega) (by omega)
 have hcok:=cwOk_W (2 * arB data+2) 0 (by omega) (by omega)
 have hf3:fmW3 ws data chunk=cpL (fmW2 ws data) ((2 * arB data+2) * 16) (rtW (2 * arB data+2) 0 (2 * arB data+1) 0 data chunk 0 (shortC (extendC 0 (arZ data)))) 0 16:=rfl
 have hf4:fmW ws data chunk=(fmW3 ws data chunk).set 0 (cwW (2 * arB data+2) 0):=rfl
 obtain ⟨d1,d2,d3,d4⟩:=decode_enc 0 0 [] ((2 * arB data+1:Nat):Int) (fun p hp=>by cases hp) valid_nil (by omega) (by omega)
 have hew:W64 (encN 0 0 [] ((2 * arB data+1:Nat):Int)):=encN_w _ _ _ _ (fun p hp=>by cases hp) (by decide)
 have hel:=encN_len 0 0 [] ((2 * arB data+1:Nat):Int)
 have hf2:fmW2 ws data=cpL (fmW1 ws data) ((2 * arB data+1) * 16) (encN 0 0 [] ((2 * arB data+1:Nat):Int)) 0 16:=rfl
 obtain ⟨E,hE⟩ :∃R,encN 0 0 [] ((2 * arB data+1:Nat):Int)=R:=⟨_,rfl⟩
 rw[hE] at d1 d2 d3 d4 hew hel hf2
 have D1:=Hi d1
 have D2:=Hi d2
 have D3:=Hi d3
 have D4:=Hi d4
 clear d1 d2 d3 d4
 obtain ⟨R,hR⟩ :∃R,rtW (2 * arB data+2) 0 (2 * arB data+1) 0 data chunk 0 (shortC (extendC 0 (arZ data)))=R:=⟨_,rfl⟩
 obtain ⟨CW,hCW⟩ :∃R,cwW (2 * arB data+2) 0=R:=⟨_,rfl⟩
 rw[hR] at hrt hrw hf3
 rw[hCW] at hcw hcf hcok hf4 ⊢
 have h0:(fmW ws data chunk)[0]?.getD 0=CW:=by
  rw[hf4,List.getElem?_set,if_pos rfl,if_pos (by omega),Option.getD_some]
 have hlow:∀j,j<(2 * arB data+1) * 16→j≠0→(fmW ws data chunk)[j]? =(fmW1 ws data)[j]?:=fun j hj h0=>by
  rw[hf4,List.getElem?_set,if_neg (by omega),hf3,cpL_at,if_neg (by omega),hf2,cpL_at,if_neg (by omega)]
 have hao:arOf (fmW ws data chunk) data 0=arZ data:=by
  rw[arOf_ext (ws:=fmW1 ws data) (fun j q1 q2=>hlow j (by omega) (by omega))]
  unfold fmW1
  exact arOf_cp _ _ _ _ (arZ_len data) (by omega)
 have hb1:blkW (fmW ws data chunk) (2 * arB data+1)=E:=by
  rw[hf4,blk_set0 _ _ _ (by omega),hf3,blk_cp_out _ _ _ _ _ (by omega),hf2]
  have hle:=(room_aux (arB data) (fmW1 ws data).length (by rw[hl1];exact hsz)).1
  exact blk_cp _ _ _ hle hel
 have hb2:blkW (fmW ws data chunk) (2 * arB data+2)=R:=by
  rw[hf4,blk_set0 _ _ _ (by omega),hf3]
  exact blk_cp _ _ _ (room_aux (arB data) (fmW2 ws data).length (by rw[hl2];exact hsz)).2 hrt
 refine ⟨⟨h1,h2,c1,c2,?_,by rw[hl4];exact hsz,by rw[hl4];exact hwl,by rw[h0];exact hcok,by rw[h0];exact hcf.1,by rw[h0];exact hcf.2,by rw[hao,hR];exact hb2,by rw[hb1];exact D1.out,by rw[hb1];exact D2.out,by rw[hb1];exact D3.out,by rw[hb1];exact D4.out,?_,?_⟩,h0,hao⟩
 ·rw[hf4]
  refine W64.set0 ?_ hcw
  rw[hf3,hf2]
  unfold fmW1
  exact cpL_w64 (cpL_w64 (cpL_w64 h64 (arZ_w data) _ _ _) hew _ _ _) hrw _ _ _
 ·rw[hao]
  unfold arZ
  have:=cts_arW (List.replicate data 0) (fun x hx=>by have:=List.eq_of_mem_replicate hx;omega)
  rw[List.length_replicate] at this
  exact this
 ·rw[hl4]
  unfold blN
  omega
theorem countP_ge (k:Nat):∀n,(List.range n).countP (fun u=>decide (k≤u))=n - k
 |0=>by simp
 |n+1=>by
  rw[List.range_succ,List.countP_append,countP_ge k n,List.countP_singleton]
  by_cases h:k≤n
  ·rw[if_pos (by simpa using h)];omega
  ·rw[if_neg (by simpa using h)];omega
def Gh0:Gh:=⟨fun _=>[],fun _=>[],fun _=>0,fun _=>false,fun _=>0,fun _=>0,fun _=>4,fun _=>0⟩
theorem new_inv {S:St} {a data:Nat} (hA:arB data=a) (ha1:1≤a) (hcnt:∀u,S.bl.count u=if u<2 * a+3 then 1 else 0) (ho:S.bl.old.length=S.bl.now.length) (hld:S.load (2 * a+1)=some ⟨0,0,[]⟩) (hda:∀d,S.da.count d=0) :
  Inv S (zM data (2 * a+2)) [2 * a+1] [] Gh0∧S.nd (zM data (2 * a+2)) (2 * a+1)=some ⟨0,0,[]⟩:=by
 have hzn:∀u,zM data (2 * a+2) u=false→S.bl.count u≠0→u=2 * a+1:=fun u h1 h2=>by
  have h3:=zM_no h1
  rw[hcnt] at h2
  split at h2
  ·omega
  ·exact absurd rfl h2
 have hz1:zM data (2 * a+2) (2 * a+1)=false:=by
  unfold zM
  rw[decide_eq_false_iff_not]
  omega
 have hnd:S.nd (zM data (2 * a+2)) (2 * a+1)=some ⟨0,0,[]⟩:=nd_of (by rw[hcnt,if_pos (by omega)];omega) hz1 hld
 have hno:∀u n,S.nd (zM data (2 * a+2)) u=some n→u=2 * a+1∧n= ⟨0,0,[]⟩:=fun u n hu=>by
  have q:=nd_count hu
  have e:=hzn u q.2.1 q.1
  subst e
  rw[hnd] at hu
  cases hu
  exact ⟨rfl,rfl⟩
 have hkid:∀w u,kidN (S.nd (zM data (2 * a+2)) w) u=0:=fun w u=>by
  cases hq:S.nd (zM data (2 * a+2)) w with
  |none=>rfl
  |some n=>
   obtain ⟨-,rfl⟩:=hno w n hq
   rfl
 have hdat:∀w d,datN false (S.nd (zM data (2 * a+2)) w) d=0:=fun w d=>by
  cases hq:S.nd (zM data (2 * a+2)) w with
  |none=>rfl
  |some n=>
   obtain ⟨-,rfl⟩:=hno w n hq
   rfl
 have hrefs:∀u,S.refs (zM data (2 * a+2)) u=0:=fun u=>(sumR_zero _).2 (fun w _=>hkid w u)
 have hdrefs:∀d,S.drefs (zM data (2 * a+2)) Gh0 d=0:=fun d=>(sumR_zero _).2 (fun w _=>hdat w d)
 have hrs:∀u,([2 * a+1]:List Nat).count u=if u=2 * a+1 then 1 else 0:=fun u=>by
  rw[List.count_singleton]
  by_cases e:u=2 * a+1
  ·subst e;simp
  ·rw[if_neg e,if_neg (by simp;omega)]
 refine ⟨⟨ho,fun u h1 h2=>?_,fun u n hu=>?_,fun u hu=>?_,fun u hu=>⟨?_,hrefs u⟩,fun u hu=>?_,fun d=>?_⟩,hnd⟩
 ·rw[hzn u h2 h1]
  exact ⟨_,hld⟩
 ·obtain ⟨rfl,rfl⟩:=hno u n hu
  refine ⟨⟨by decide,List.Pairwise.nil,(fun e he=>by cases he),(fun q=>absurd rfl q),(fun q=>absurd rfl q),(fun q=>absurd rfl q),(fun q=>absurd rfl q)⟩,by decide,Nat.zero_le _,(fun c m hc=>by cases hc),rfl,rfl,rfl,rfl,rfl,rfl,rfl⟩
 ·rw[hcnt,hrs,hrefs]
  have:=zM_no hu
  by_cases e:u=2 * a+1
  ·rw[if_pos (by omega),if_pos e]
  ·rw[if_neg (by omega),if_neg e]
 ·rw[hrs,if_neg (fun e=>by rw[e,hz1] at hu;cases hu)]
 ·rw[hcnt]
  unfold zM at hu
  rw[decide_eq_true_iff] at hu
  rw[if_pos (by omega)]
  omega
 ·rw[hdrefs,hda]
  rfl
theorem new_count (ws:List Nat) (data chunk u:Nat) (h:2 * arB data+3≤blN ws.length):(Mt.new ws data chunk).S.bl.count u=if u<2 * arB data+3 then 1 else 0:=by
 show (onesTo (blN ws.length) (2 * arB data+3))[u]?.getD 0=_
 rcases Nat.lt_or_ge u (blN ws.length) with q|q
 ·exact onesTo_at _ _ _ q
 ·rw[List.getElem?_eq_none (by rw[onesTo_len];exact q),if_neg (by omega)]
  rfl
theorem new_load (ws:List Nat) (data chunk u:Nat):(Mt.new ws data chunk).S.load u=dkW ws u:=rfl
theorem new_free (ws:List Nat) (data chunk:Nat) (h:2 * arB data+49≤blN ws.length):6≤(Mt.new ws data chunk).S.bl.free:=by
 show 6≤(List.range (onesTo (blN ws.length) (2 * arB data+3)).length).countP (Mt.new ws data chunk).S.bl.isFree
 rw[onesTo_len]
 have:=countP_ge (2 * arB data+3) (blN ws.length)
 have h2:(List.range (blN ws.length)).countP (fun u=>decide (2 * arB data+3≤u))≤(List.range (blN ws.length)).countP (Mt.new ws data chunk).S.bl.isFree:=List.countP_mono_left (fun u hu h3=>by
  have hu3:2 * arB data+3≤u:=by simpa using h3
  have:=new_count ws data chunk u (by omega)
  rw[if_neg (by omega)] at this
  exact (isFree_iff u).2 ⟨this,this⟩)
 omega
theorem new_dk {ws:List Nat} {data chunk:Nat} (h:NewW ws data chunk):dkW ws (2 * arB data+1)=some ⟨0,0,[]⟩:=by
 have hsz:=h.sz
 have hc0:=(room_aux _ _ hsz).1
 have hc:=And.intro hc0 h.lf
 unfold dkW
 rw[if_pos hc]
 unfold nodeOf
 rw[h.l1,h.l2,h.l3]
 rfl
theorem new_ok {ws:List Nat} {data chunk:Nat} (h:NewW ws data chunk) (hc0:ws[0]?.getD 0=cwW (2 * arB data+2) 0) (har:arOf ws data 0=arW (List.replicate data 0)) (hwl:ws.length≤100000):MtY (Mt.new ws data chunk) 0:=by
 have hab:arB data≤257∧1≤arB data:=by unfold arB;have:=h.d1;have:=h.d2;omega
 have hsz:=h.sz
 have hnb:2 * arB data+49≤blN ws.length∧blN ws.length≤ws.length / 16:=by unfold blN;omega
 have hld:(Mt.new ws data chunk).S.load (2 * arB data+1)=some ⟨0,0,[]⟩:=(new_load ws data chunk _).trans (new_dk h)
 have hcnt:=fun u=>new_count ws data chunk u (by omega)
 have hfree:=new_free ws data chunk hnb.1
 have hrb:=h.rb
 rw[har] at hrb
 have hda:∀d,(Mt.new ws data chunk).S.da.count d=0:=fun d=>by
  show (List.replicate data 0)[d]?.getD 0=0
  rw[List.getElem?_replicate]
  split <;> rfl
 have hch:∀u,(Mt.new ws data chunk).S.ch u=none:=fun _=>rfl
 have hlen:(Mt.new ws data chunk).S.bl.now.length=blN ws.length:=onesTo_len _ _
 have hdl:(Mt.new ws data chunk).S.da.now.length=data:=List.length_replicate
 have hdk:(Mt.new ws data chunk).S.dk=dkW ws:=rfl
 have hsq:(Mt.new ws data chunk).S.seq=1:=rfl
 have hold:(Mt.new ws data chunk).S.bl.old.length=(Mt.new ws data chunk).S.bl.now.length:=rfl
 obtain ⟨m,hm⟩ :∃q,Mt.new ws data chunk=q:=⟨_,rfl⟩
 have f1:m.data=data∧m.root=2 * arB data+2∧m.tree=2 * arB data+1∧m.dv= []∧m.pe= []∧m.time=0∧m.seq=0:=by rw[←hm];exact ⟨rfl,rfl,rfl,rfl,rfl,rfl,rfl⟩
 have f2:m.chunk=chunk∧m.area=0∧m.ws=ws∧m.S.da.now=List.replicate data 0:=by rw[←hm];exact ⟨rfl,rfl,rfl,rfl⟩
 rw[hm] at hld hcnt hfree hda hch hlen hdl hdk hsq hold ⊢
 clear hm
 obtain ⟨a1,a2,a3,a4,a5,a6,a7⟩:=f1
 obtain ⟨b1,b2,b3,b4⟩:=f2
 obtain ⟨i1,i2⟩:=new_inv rfl hab.2 hcnt hold hld hda
 refine ⟨⟨Gh0,⟨by rw[a1,a2,a3,a4,a5];exact i1,rfl,⟨_,by rw[a1,a2,a3];exact i2,(fun q=>absurd rfl q),(by rw[a3];exact Nat.le_refl 0)⟩,fun d hd=>(by rw[a4] at hd;cases hd),by rw[a4];rfl,by rw[a4];exact Nat.le_refl _,by rw[a5];exact Nat.zero_le _,by omega,by omega,by omega,fun u hu=>⟨?_,hch u⟩,by rw[a1,a2];omega,by rw[b3];exact hlen,by rw[a1];exact hdl,by rw[a1];exact h.d1,by rw[a1];exact h.d2,by rw[b1];exact h.c1,by rw[b1];exact h.c2,by omega,by rw[a1,b3];exact hsz,by rw[b3];exact hwl,by rw[b3];exact hdk,by rw[b3];exact h.w64,hfree,by omega,by omega⟩⟩,by rw[a5];exact Nat.zero_le _,fun _=>⟨a5,hch,by rw[b3,a2,a7];exact hc0,?_,by rw[b3,a1,b2,b4];exact har,fun u n hn=>(by
  obtain ⟨q1,q2,q3⟩:=nd_count hn
  have hu:u=2 * arB data+1:=by
   rw[hcnt] at q1
   unfold zM at q2
   rw[decide_eq_false_iff_not,a1,a2] at q2
   split at q1
   ·omega
   ·exact absurd rfl q1
  subst hu
  rw[hld] at q3
  injection q3 with q3
  rw[←q3]
  exact Nat.zero_le _)⟩,fun d hd=>(by rw[a4] at hd;cases hd),⟨_,by rw[a3];exact hld,rfl⟩⟩
 ·rw[hcnt,if_pos]
  rw[a1,a2] at hu
  unfold zM at hu
  rw[decide_eq_true_iff] at hu
  omega
 ·rw[b3,a2,a7,a3,a6,a1,b1,b2,b4]
  exact hrb
end
end Go.Proofs.YtplhdjdkobddnaaGreat
