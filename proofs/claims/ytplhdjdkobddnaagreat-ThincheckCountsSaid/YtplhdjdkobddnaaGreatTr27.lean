/- MwH MtA MtL -/
import Derived.Test.YtplhdjdkobddnaaGreatTr25
set_option linter.unusedVariables false
set_option maxRecDepth 100000
set_option maxHeartbeats 40000000
namespace Go.Proofs.YtplhdjdkobddnaaGreat
section
open Go.RowKit
attribute [local go_sem] Oper.semAt_some
def Em (W:World) (b:Nat):Prop:=W.ownsMap Tryz.prog 3 valElem b 0 (.map [])
theorem Em.made (W:World):Em (W.alloc (.map #[] 0)) W.heap.size:=World.ownsMap_made W _ _ _
theorem Em.fr {W W':World} {b:Nat} {G:Nat→Prop} (h:Em W b) (hf:Fr G W W') (hn:¬G b):Em W' b:=owns_fr h hf hn
theorem Em.lt {W:World} {b:Nat} (h:Em W b):b<W.heap.size:=by
 have:ChIn W b 0 (fun _=>none) (fun _=>True):=⟨0,_,h,Nat.le_refl _,fun _ _=>rfl,fun x=>⟨(fun b _ nd h=>by cases h),fun _=>rfl⟩⟩
 exact this.lt
theorem Em.store {W:World} {b:Nat} (h:Em W b) {t:TypeId} {el:TypeId} (ht:Tryz.prog.underlying t=some (.map 3 el)) (x:Nat) (hx:x≤1000000) (v:Value) :
  ∃W',(Instr.mapUpdate t (.map (some b)) (.int .i64 (x:Int)) v).run Tryz.prog W=.ok () W'∧Fr (· =b) W W':=by
 obtain ⟨W',hrun,a1,a2⟩:=World.ownsMap.store h (Maps.int_keyed (P:=Tryz.prog) Tryz.underlying3) ht (by simp only[maxLen];omega) (ChIn.key (x:=(x:Int)) (by omega)) (show valElem v=some (.held v,[]) from rfl)
 exact ⟨W',hrun,Fr.of_grown a2.grown⟩
theorem Em.look {W:World} {b:Nat} (h:Em W b) {t:TypeId} {el:TypeId} (ht:Tryz.prog.underlying t=some (.map 3 el)) {z:Value} (hz:∀w,(zeroValue el).run Tryz.prog w=.ok z w) (x:Nat) (hx:x≤1000000) :
  (Instr.lookup t (.map (some b)) (.int .i64 (x:Int)) true).run Tryz.prog W=.ok (.tuple #[z,.bool false]) W:=by
 obtain ⟨v,ps,hrun,hv⟩:=World.ownsMap.look_ok h (Maps.int_keyed Tryz.underlying3) ht (hz W) (zd:=.held z) (zp:=[]) rfl (ChIn.key (x:=(x:Int)) (by omega))
 have hh:Maps.has (.map []:DataW Value) (.int .i64 (x:Int))=false:=rfl
 have hv2:(DataW.map []:DataW Value).atKey (.int .i64 (x:Int)) (.held z)=.held v:=by
  unfold valElem at hv
  injection hv with hv
  exact (Prod.mk.inj hv).1.symm
 rw[Maps.atKey_of_not_has hh] at hv2
 have hv3:z=v:=by injection hv2
 rw[hv3]
 rw[hh] at hrun
 exact hrun
theorem zero_entries (w:World):(zeroValue 87).run Tryz.prog w=.ok (.slice none 0 0) w:=by kernel_rfl
theorem rtree_empty (W:World) (R g m c first root gc cc nb ms md b B0 seq:Nat) (ws cs:List Nat) (hR:Cs W R 86 #[.slice (some ⟨g,0,none⟩) m c,.int .i64 (first:Int),.int .i64 (root:Int),.slice (some ⟨gc,0,none⟩) nb cc,.map (some ms),.map (some md),.bool false])
  (hm:ws.length=m) (hA:W.ownsRow 0 39 1 (.slice (some ⟨g,0,none⟩) m c) m (uv ws)) (hw:W64 ws) (hl:m≤1000000) (hcs:W.ownsRow B0 3 1 (.slice (some ⟨gc,0,none⟩) nb cc) nb (nv cs)) (hnb:cs.length=nb) (hcl:∀x∈cs,x≤1000000)
  (h1:Em W ms) (h2:Em W md) (hms:ms≠md) (hb:b<nb) (hf:first≤b) (hr:b≠root) (hbm:(b+1) * 16≤m) (hb4:b<4096) (hd0:decE (blkW ws b) (b:Int)=0) (hd1:decLv (blkW ws b) (b:Int)=0) (hd2:decSq (blkW ws b) (b:Int)=0) (hd3:decL (blkW ws b) (b:Int)= []) (hn4:nb≤4096) :
  Calls Tryz.prog 50 #[.pointer (some ⟨R,0,none⟩),.int .u64 (b:Int),.int .i64 (-1),.int .i64 (seq:Int),.int .i64 0,.int .i64 (-1)] W fun e w'=>e=.returned (.tuple #[.slice none 0 0,.bool true])∧w'.ownsRow B0 3 1 (.slice (some ⟨gc,0,none⟩) nb cc) nb (nv (cs.set b (cs[b]?.getD 0+1)))∧Fr (fun j=>j=gc∨j=ms∨j=md) W w':=by
 have x0:=hR.cell 0
 have x1:=hR.cell 1
 have x2:=hR.cell 2
 have x3:=hR.cell 3
 have x4:=hR.cell 4
 have x5:=hR.cell 5
 have x6:=hR.cell 6
 have n1:IntKind.u64.wrap (nb:Int)=nb:=by rw[wrap_nat,Nat.mod_eq_of_lt (by omega)]
 have n2:IntKind.i64.wrap (b:Int)=b:=IntWalk.i64_in _ (by omega)
 have d1:¬(nb:Int)≤(b:Int):=by omega
 have d2:¬(b:Int)<(first:Int):=by omega
 have d3:¬(b:Int)=(root:Int):=by omega
 have d4:(b:Int)≤(nb:Int):=by omega
 have d5:(b:Int)<(nb:Int):=by omega
 have hRmd:R≠md:=cs_mp_ne h2 hR
 have hRms:R≠ms:=cs_mp_ne h1 hR
 have hgcmd:gc≠md:=own_mp_ne h2 hcs gc rfl
 have hgcms:gc≠ms:=own_mp_ne h1 hcs gc rfl
 have hgmd:g≠md:=own_mp_ne h2 hA g rfl
 have hgms:g≠ms:=own_mp_ne h1 hA g rfl
 have hRgc:R≠gc:=fun e=>cs_own_ne hR hcs (by decide) gc rfl e.symm
 have hggc:g≠gc:=own_own_ne hA hcs (by decide) g gc rfl rfl
 have hRg:R≠g:=fun e=>cs_own_ne hR hA (by decide) g rfl e.symm
 obtain ⟨W1,hrun1,hf1⟩:=h2.store (t:=57) Tryz.underlying57 b (by omega) (.bool true)
 have hR1:=hR.fr hf1 hRmd
 have hcs1:=own_fr hcs hf1 (fun q hq e=>by simp[Value.ownBlock] at hq;omega)
 have hA1:=own_fr hA hf1 (fun q hq e=>by simp[Value.ownBlock] at hq;omega)
 have h11:=h1.fr hf1 hms
 have y0:=hR1.cell 0
 have y3:=hR1.cell 3
 have yc:=hcs1.cellAt b (by omega)
 rw[nv_at _ _ (by omega)] at yc
 have yf:=hcs1.frozenAt b
 have hxl:cs[b]?.getD 0≤1000000:=by
  rw[List.getElem?_eq_getElem (by omega),Option.getD_some]
  exact hcl _ (List.getElem_mem _)
 obtain ⟨x,hx⟩ :∃x,cs[b]?.getD 0=x:=⟨_,rfl⟩
 rw[hx] at yc hxl ⊢
 have e1:IntKind.i64.wrap ((x:Int)+1)=(x:Int)+1:=IntWalk.i64_in _ (by omega)
 have hst:=(hcs1.stored b (.int .i64 ((x+1:Nat):Int))).1
 rw[nv_set,show ((x+1:Nat):Int)=(x:Int)+1 by omega] at hst
 have hf2:=fr_set W1 gc b (.int .i64 ((x:Int)+1))
 have hR2:=hR1.fr hf2 hRgc
 have hA2:=own_fr hA1 hf2 (fun q hq e=>by simp[Value.ownBlock] at hq;omega)
 have h12:=h11.fr hf2 (fun e=>hgcms e.symm)
 have HF2:=Hi (((hf1.mono (fun j _ e=>(.inr (.inr e):j=gc∨j=ms∨j=md))).trans (hf2.mono (fun j _ e=>(.inl e:j=gc∨j=ms∨j=md)))))
 obtain ⟨W2,hW2⟩ :∃q,W1.setCell ⟨gc,b,none⟩ (.int .i64 ((x:Int)+1))=q:=⟨_,rfl⟩
 rw[hW2] at hst hR2 hA2 h12 HF2
 have z0:=hR2.cell 0
 have hcap:=own_cap hA2
 have hbk:=rblock_any ⟨g,0,none⟩ m c b W2 (by omega) hcap hl
 rw[Addr.add_lit,Nat.zero_add] at hbk
 subst hm
 have hdc:=refDecode_all (some ⟨g,b * 16,none⟩) (c - b * 16) 16 (blkW ws b) (b:Int) W2 (blk_len hbm) (blk_reads hA2 hbm) (blk_w hw b) (by omega)
 rw[hd0,hd1,hd2,hd3] at hdc
 have HDC:=Hi hdc
 have HBK:=Hi hbk
 have HST:=Hi hst
 have HR2:=Hi hR2
 have H12:=Hi h12
 clear hdc hbk hst hR2 h12 hA2 hf2 hf1 hR1 hcs1 hA1 h11 hR hcs hA h1 h2
 go_enter Tryz.func50,Tryz.ntmps50
 go_wp2_with (rw[hW2])
 refine HBK.out.mono ?_
 rintro e w' ⟨rfl,rfl⟩
 go_wp2_with fail
 refine HDC.out.mono ?_
 rintro e w3 ⟨v,rfl,hown,hb3⟩
 obtain ⟨A3,c3,rfl⟩:=own_form hown
 have hb4:Below W2.heap.size W2 (w3.alloc (.cells #[.int .i64 0,.int .i64 0,.slice A3 0 c3] 129)):=hb3.trans (((Below.refl _ w3).alloc (Nat.le_refl _) _).mono hb3.size)
 have CB:=Cs.new w3 129 #[.int .i64 0,.int .i64 0,.slice A3 0 c3]
 have u0:=CB.cell 0
 have u1:=CB.cell 1
 have u2:=CB.cell 2
 have HR4:=HR2.out.below hb4 HR2.out.lt
 have r4:=HR4.cell 4
 have h14:=H12.out.fr (Fr.of_below (G:=fun _=>False) hb4) (fun q=>q)
 have hlk:=h14.look (t:=84) Tryz.underlying84 zero_entries b (by omega)
 obtain ⟨W5,hrun5,hf5⟩:=h14.store (t:=84) Tryz.underlying84 b (by omega) (.slice none 0 0)
 have HST4:=own_keepU' HST.out hb4
 have hs3:=hb3.size
 have hw3:(w3.alloc (.cells #[.int .i64 0,.int .i64 0,.slice A3 0 c3] 129)).heap.size=w3.heap.size+1:=by simp
 have d9:¬(seq:Int)<0:=by omega
 have HROW:=Hi (own_fr HST4 hf5 (fun q hq e=>by simp[Value.ownBlock] at hq;omega))
 have HFIN:=Hi ((HF2.out.trans (Fr.of_below hb4)).trans (hf5.mono (fun j _ e=>(.inr (.inl e):j=gc∨j=ms∨j=md))))
 have hRlt:=HR2.out.lt
 have hRw:¬R=w3.heap.size:=by omega
 clear hown HDC HBK hb4 hb3 HST4 h14 CB hf5
 go_wp2_with fail
 go_loop [19,20] (fun s i=>s=.slice none 0 0∧i=.int .i64 0) (fun _ _=>0)
 case atStart=>exact ⟨rfl,rfl⟩
 case round=>
  obtain ⟨rfl,rfl⟩:=hrel
  go_wp2_with fail
  go_ret2
  exact ⟨rfl,HROW.out,HFIN.out⟩
end
section
open Go.RowKit
attribute [local go_sem] Oper.semAt_some
structure Dv where
 id:Nat
 rt:Nat
 tm:Nat
 mp:Nat
def Dv.cells (d:Dv):List Value:=[.int .i64 (d.id:Int),.int .i64 (d.rt:Int),.int .i64 (d.tm:Int),.int .i64 (d.mp:Int)]
def Dv.v (d:Dv):Value:=.agg #[.int .i64 (d.id:Int),.int .i64 (d.rt:Int),.int .i64 (d.tm:Int),.int .i64 (d.mp:Int)]
def Dv.val (d:Dv):Nat:=dvV d.rt d.tm d.mp
def dvv (l:List Dv):List Value:=l.flatMap Dv.cells
theorem dvv_length (l:List Dv):(dvv l).length=l.length * 4:=by
 induction l with
 |nil=>rfl
 |cons d l ih=>simp only[dvv,List.flatMap_cons,List.length_append,List.length_cons] at ih ⊢;rw[ih];simp[Dv.cells];omega
theorem dvv_append (l m:List Dv):dvv (l++m)=dvv l++dvv m:=by simp[dvv]
theorem dvv_one (l:List Dv):∀u∈dvv l,u.oneCell'=true:=by
 intro u hu
 obtain ⟨d,_,hd⟩:=List.mem_flatMap.1 hu
 simp[Dv.cells] at hd
 rcases hd with rfl|rfl|rfl|rfl <;> rfl
theorem dvv_at (l:List Dv) (i:Nat) (h:i<l.length):(dvv l)[i * 4]? =some (.int .i64 ((l[i].id:Nat):Int))∧(dvv l)[i * 4+1]? =some (.int .i64 ((l[i].rt:Nat):Int))∧(dvv l)[i * 4+2]? =some (.int .i64 ((l[i].tm:Nat):Int))∧(dvv l)[i * 4+3]? =some (.int .i64 ((l[i].mp:Nat):Int)):=by
 induction l generalizing i with
 |nil=>simp at h
 |cons d l ih=>
  have e:dvv (d :: l)=d.cells++dvv l:=rfl
  have hl:d.cells.length=4:=rfl
  rcases i with _|i
  ·rw[e]
   exact ⟨rfl,rfl,rfl,rfl⟩
  ·have:=ih i (by simpa using h)
   rw[e]
   refine ⟨?_,?_,?_,?_⟩
   ·rw[List.getElem?_append_right (by rw[hl];omega),hl,show (i+1) * 4 - 4=i * 4 by omega];exact this.1
   ·rw[List.getElem?_append_right (by rw[hl];omega),hl,show (i+1) * 4+1 - 4=i * 4+1 by omega];exact this.2.1
   ·rw[List.getElem?_append_right (by rw[hl];omega),hl,show (i+1) * 4+2 - 4=i * 4+2 by omega];exact this.2.2.1
   ·rw[List.getElem?_append_right (by rw[hl];omega),hl,show (i+1) * 4+3 - 4=i * 4+3 by omega];exact this.2.2.2
theorem device_info:(Tryz.prog.info? 91).map (fun i=>(i.zero,i.size,i.bytes))=some (some (.agg #[.int .i64 0,.int .i64 0,.int .i64 0,.int .i64 0]),4,32):=by kernel_rfl
structure Mt where
 S:St
 ws:List Nat
 seq:Nat
 time:Nat
 data:Nat
 chunk:Nat
 area:Nat
 root:Nat
 tree:Nat
 dv:List Dv
 od:List Dv
 pe:List Nat
 done:Bool
def RowO (W:World) (Out:Nat→Prop) (l:List Value) (n:Nat) (v:Value):Prop:=
 ∃A c,v=.slice A n c∧Reads W A l∧n≤c∧(n≠0→∀p,A=some p→Out p.block∧p.block<W.heap.size)
structure MtIn (W:World) (F:Nat→Prop) (M:Nat) (P:SP) (m:Mt):Prop where
 cs:∃vd vo vp,Cs W M 82 #[.slice (some ⟨P.w,0,none⟩) m.ws.length P.cw,.int .i64 (m.seq:Int),.int .i64 (m.time:Int),.int .i64 (m.data:Int),.int .i64 (m.chunk:Int),.int .i64 (m.area:Int),.int .i64 (m.root:Int),.int .i64 (m.tree:Int),.pointer (some ⟨P.b.p,0,none⟩),.pointer (some ⟨P.d.p,0,none⟩),.pointer (some ⟨P.s,0,none⟩),vd,vo,vp,.bool m.done]∧
  RowO W (OutF F P) (dvv m.dv) m.dv.length vd∧RowO W (OutF F P) (dvv m.od) m.od.length vo∧RowO W (OutF F P) (nv m.pe) m.pe.length vp
 st:StIn W F P m.S m.ws
 nM:¬F M
 dl:m.dv.length≤64
 ol:m.od.length≤64
 pl:m.pe.length≤16384
section
variable {W W':World} {Out Out' G:Nat→Prop} {l:List Value} {n:Nat} {v:Value}
theorem RowO.fr (h:RowO W Out l n v) (hl:l.length≠0→n≠0) (hf:Fr G W W') (hn:∀j,Out j→¬G j):RowO W' Out l n v:=by
 obtain ⟨A,c,e,h1,h2,h3⟩:=h
 exact ⟨A,c,e,h1.fr hf (fun h0 p hp=>hn _ (h3 (hl h0) p hp).1),h2,fun h0 p hp=>⟨(h3 h0 p hp).1,Nat.lt_of_lt_of_le (h3 h0 p hp).2 hf.size⟩⟩
theorem RowO.wide (h:RowO W Out l n v) (ho:∀j,Out j→j<W.heap.size→Out' j):RowO W Out' l n v:=by
 obtain ⟨A,c,e,h1,h2,h3⟩:=h
 exact ⟨A,c,e,h1,h2,fun h0 p hp=>⟨ho _ (h3 h0 p hp).1 (h3 h0 p hp).2,(h3 h0 p hp).2⟩⟩
theorem RowO.nil (W:World) (Out:Nat→Prop):RowO W Out [] 0 (.slice none 0 0):=⟨none,0,rfl,Reads.nil,Nat.le_refl _,fun h=>absurd rfl h⟩
theorem dvv_ne (l:List Dv):(dvv l).length≠0→l.length≠0:=by rw[dvv_length];omega
theorem nv_ne (l:List Nat):(nv l).length≠0→l.length≠0:=by rw[nv_length];exact id
theorem RowO.form (h:RowO W Out l n v):∃A c,v=.slice A n c:=by
 obtain ⟨A,c,e,_⟩:=h
 exact ⟨A,c,e⟩
theorem RowO.reads {A:Option Addr} {c:Nat} (h:RowO W Out l n (.slice A n c)):Reads W A l:=by
 obtain ⟨A',c',e,h1,_⟩:=h
 injection e with e1 _ e2
 subst e1
 exact h1
end
section
variable {W W':World} {F F' G:Nat→Prop} {M:Nat} {P:SP} {m:Mt}
theorem MtIn.fr (h:MtIn W F M P m) (hf:Fr G W W') (hn:∀j,F j→¬G j) (hM:¬G M):MtIn W' F M P m:=by
 obtain ⟨⟨vd,vo,vp,c1,r1,r2,r3⟩,h2,h3,h4,h5,h6⟩:=h
 exact ⟨⟨vd,vo,vp,c1.fr hf hM,r1.fr (dvv_ne _) hf (fun j hj=>hn j hj.1),r2.fr (dvv_ne _) hf (fun j hj=>hn j hj.1),r3.fr (nv_ne _) hf (fun j hj=>hn j hj.1)⟩,h2.fr hf hn,h3,h4,h5,h6⟩
theorem MtIn.keep (h:MtIn W F M P m) (hb:Below W.heap.size W W'):MtIn W' F M P m:=h.fr (G:=fun _=>False) (Fr.of_below hb) (fun _ _ h=>h) (fun h=>h)
theorem MtIn.wide (h:MtIn W F M P m) (hF:∀j,F j→j<W.heap.size→F' j) (hP:∀j,P.has j→F' j) (hM:¬F' M):MtIn W F' M P m:=by
 obtain ⟨⟨vd,vo,vp,c1,r1,r2,r3⟩,h2,h3,h4,h5,h6⟩:=h
 exact ⟨⟨vd,vo,vp,c1,r1.wide (fun j hj hl=>⟨hF j hj.1 hl,hj.2⟩),r2.wide (fun j hj hl=>⟨hF j hj.1 hl,hj.2⟩),r3.wide (fun j hj hl=>⟨hF j hj.1 hl,hj.2⟩)⟩,h2.wide hF hP,hM,h4,h5,h6⟩
theorem MtIn.lt (h:MtIn W F M P m):M<W.heap.size:=by
 obtain ⟨⟨vd,vo,vp,c1,_⟩,_⟩:=h
 exact c1.lt
theorem MtIn.tight (h:MtIn W F M P m):MtIn W (fun j=>F j∧j<W.heap.size) M P m:=h.wide (fun j h1 h2=>⟨h1,h2⟩) (fun j hj=>⟨h.st.inF j hj,h.st.lt j hj⟩) (fun q=>h.nM q.1)
end
def fnd (l:List Dv) (id:Nat):Option Nat:=l.findIdx? (fun d=>d.id == id)
def hasD (l:List Dv) (id:Nat):Bool:=(fnd l id).isSome
theorem fnd_at {l:List Dv} {id k:Nat} (h:fnd l id=some k):k<l.length∧(l[k]?.getD ⟨0,0,0,0⟩).id=id:=by
 unfold fnd at h
 rw[List.findIdx?_eq_some_iff_getElem] at h
 obtain ⟨h1,h2,h3⟩:=h
 refine ⟨h1,?_⟩
 rw[List.getElem?_eq_getElem h1]
 simpa using h2
theorem fnd_no {l:List Dv} {id:Nat} (h:∀k,k<l.length→(l[k]?.getD ⟨0,0,0,0⟩).id≠id):fnd l id=none:=by
 unfold fnd
 rw[List.findIdx?_eq_none_iff]
 intro x hx
 obtain ⟨k,hk,rfl⟩:=List.getElem_of_mem hx
 have:=h k hk
 rw[List.getElem?_eq_getElem hk] at this
 simpa using this
theorem fnd_yes {l:List Dv} {id k:Nat} (hk:k<l.length) (h:(l[k]?.getD ⟨0,0,0,0⟩).id=id) (h0:∀j,j<k→(l[j]?.getD ⟨0,0,0,0⟩).id≠id):fnd l id=some k:=by
 unfold fnd
 rw[List.findIdx?_eq_some_iff_getElem]
 refine ⟨hk,?_,fun j hj=>?_⟩
 ·rw[List.getElem?_eq_getElem hk] at h
  simpa using h
 ·have:=h0 j hj
  rw[List.getElem?_eq_getElem (by omega)] at this
  simpa using this
theorem rfind27_any (A:Option Addr) (n c:Nat) (l:List Dv) (id:Nat) (W:World) (hn:l.length=n) (hA:Reads W A (dvv l)) (hl:n≤1000000) :
  Calls Tryz.prog 85 #[.slice A n c,.int .i64 (id:Int)] W fun e w'=>e=.returned (.tuple #[.int .i64 (((fnd l id).getD 0:Nat):Int),.bool (hasD l id)])∧W=w':=by
 have HC:Hid (∀k,k<n→∃b off,A=some ⟨b,off,none⟩∧W.cell? ⟨b,off+k * 4,none⟩=some (.int .i64 (((l[k]?.getD ⟨0,0,0,0⟩).id:Nat):Int))):=by
  intro k hk
  obtain ⟨b,off,e,hb,hc⟩:=hA (by rw[dvv_length];omega)
  refine ⟨b,off,e,?_⟩
  rw[hc _ _ (dvv_at l k (by omega)).1,List.getElem?_eq_getElem (by omega)]
  rfl
 have HN:=Hi hn
 clear hA hn
 go_enter Tryz.func85,Tryz.ntmps85
 go_wp2_with fail
 go_loop [6] (fun i=>∃k:Nat,k≤n∧i=.int .i64 k∧Hid (∀j,j<k→(l[j]?.getD ⟨0,0,0,0⟩).id≠id)) (fun i=>n - (intOf i).toNat)
 case atStart=>exact ⟨0,Nat.zero_le _,rfl,fun u hu=>by omega⟩
 case round=>
  obtain ⟨k,hk,rfl,hf⟩:=hrel
  by_cases hlt:k<n
  ·obtain ⟨b,off,rfl,hc⟩:=HC.out k hlt
   obtain ⟨x,hx⟩ :∃x,(l[k]?.getD ⟨0,0,0,0⟩).id=x:=⟨_,rfl⟩
   rw[hx] at hc
   have HX:=Hi hx
   clear hx
   by_cases e:x=id
   ·subst e
    have hr:=fnd_yes (l:=l) (by rw[HN.out];exact hlt) HX.out hf.out
    have HR:=Hi hr
    clear hr
    go_wp2_with fail
    go_ret2
    unfold hasD
    rw[HR.out]
    exact ⟨rfl,rfl⟩
   ·have d1:((x:Int) == (id:Int))=false:=by simp;omega
    have d2:¬(x:Int)=(id:Int):=by omega
    go_wp2_with fail
    go_round
    case rel=>exact ⟨k+1,by omega,by go_num,fun j hj=>by
     rcases Nat.lt_or_ge j k with q|q
     ·exact hf.out j q
     ·obtain rfl:j=k:=by omega
      rw[HX.out]
      exact e⟩
    case measure=>simp[intOf];omega
  ·obtain rfl:k=n:=by omega
   have hr:=fnd_no (l:=l) (id:=id) (by rw[HN.out];exact hf.out)
   have HR:=Hi hr
   clear hr
   go_wp2_with fail
   go_ret2
   unfold hasD
   rw[HR.out]
   exact ⟨rfl,rfl⟩
section
variable {W:World} {F:Nat→Prop} {M:Nat} {P:SP} {m:Mt}
theorem rhas_any (h:MtIn W F M P m) (id:Nat) :
  Calls Tryz.prog 81 #[.pointer (some ⟨M,0,none⟩),.int .i64 (id:Int)] W fun e w'=>e=.returned (.bool (hasD m.dv id))∧W=w':=by
 obtain ⟨⟨vd,vo,vp,c1,r1,r2,r3⟩,h2,h3,h4,h5,h6⟩:=h
 obtain ⟨A,c,rfl⟩:=r1.form
 have x11:=c1.cell 11
 have hf:=Hi (rfind27_any A m.dv.length c m.dv id W rfl r1.reads (by omega))
 clear c1 r1 r2 r3 h2
 go_enter Tryz.func81,Tryz.ntmps81
 go_wp2_with fail
 refine hf.out.mono ?_
 rintro e w' ⟨rfl,rfl⟩
 go_wp2_with fail
 go_ret
 exact ⟨rfl,rfl⟩
theorem rfreemeta_any (h:MtIn W F M P m) :
  Calls Tryz.prog 82 #[.pointer (some ⟨M,0,none⟩)] W fun e w'=>e=.returned (.int .i64 ((m.S.bl.free:Nat):Int))∧W=w':=by
 obtain ⟨⟨vd,vo,vp,c1,r1,r2,r3⟩,h2,h3,h4,h5,h6⟩:=h
 have x8:=c1.cell 8
 have hf:=Hi (rfree_any24 h2.mb)
 clear c1 r1 r2 r3 h2
 go_enter Tryz.func82,Tryz.ntmps82
 go_wp2_with fail
 refine hf.out.mono ?_
 rintro e w' ⟨rfl,rfl⟩
 go_wp2_with fail
 go_ret
 exact ⟨rfl,rfl⟩
end
theorem rbadid_any (id:Nat) (W:World) (hi:id≤65535) :
  Calls Tryz.prog 80 #[.int .i64 (id:Int)] W fun e w'=>e=.returned (.bool false)∧W=w':=by
 have d1:¬(id:Int)<0:=by omega
 have d2:¬(65535:Int)<(id:Int):=by omega
 go_enter Tryz.func80,Tryz.ntmps80
 go_wp2_with fail
 go_ret
 exact ⟨rfl,rfl⟩
end
section
open Go.RowKit
attribute [local go_sem] Oper.semAt_some
section
variable {W W':World} {F F' G:Nat→Prop} {M:Nat} {P:SP} {m:Mt}
theorem MtIn.store (h:MtIn W F M P m) (hf:Fr P.has W W') {S':St} {ws':List Nat} (hs:StIn W' F' P S' ws') (hF:∀j,F j→j<W.heap.size→F' j) (hnM:¬F' M) (hw:ws'.length=m.ws.length):MtIn W' F' M P { m with S:=S',ws:=ws' }:=by
 have hMP:¬P.has M:=fun q=>h.nM (h.st.inF _ q)
 obtain ⟨⟨vd,vo,vp,c1,r1,r2,r3⟩,h2,h3,h4,h5,h6⟩:=h
 refine ⟨⟨vd,vo,vp,?_,(r1.wide (fun j hj hl=>⟨hF j hj.1 hl,hj.2⟩)).fr (dvv_ne _) hf (fun j hj=>hj.2),(r2.wide (fun j hj hl=>⟨hF j hj.1 hl,hj.2⟩)).fr (dvv_ne _) hf (fun j hj=>hj.2),(r3.wide (fun j hj hl=>⟨hF j hj.1 hl,hj.2⟩)).fr (nv_ne _) hf (fun j hj=>hj.2)⟩,hs,hnM,h4,h5,h6⟩
 have:=c1.fr hf hMP
 show Cs W' M _ #[.slice (some ⟨P.w,0,none⟩) ws'.length P.cw,_,_,_,_,_,_,_,_,_,_,_,_,_,_]
 rw[hw]
 exact this
theorem MtIn.wrap (h:MtIn W F M P m) {i:Nat} (v:Value):StIn (W.setCell ⟨M,i,none⟩ v) F P m.S m.ws:=h.st.fr (fr_set W M i v) (fun j hj e=>h.nM (by rw[←e];exact hj))
theorem RowO.wrap {W:World} {Out:Nat→Prop} {l:List Value} {n:Nat} {v u:Value} {M i:Nat} (h:RowO W Out l n v) (hl:l.length≠0→n≠0) (hM:¬Out M):RowO (W.setCell ⟨M,i,none⟩ u) Out l n v:=h.fr hl (fr_set W M i u) (fun j hj e=>hM (by rw[←e];exact hj))
theorem MtIn.set_seq (h:MtIn W F M P m) (x:Nat):MtIn (W.setCell ⟨M,1,none⟩ (.int .i64 (x:Int))) F M P { m with seq:=x }:=by
 have hs:=h.wrap (i:=1) (.int .i64 (x:Int))
 have hnM:=h.nM
 obtain ⟨⟨vd,vo,vp,c1,r1,r2,r3⟩,h2,h3,h4,h5,h6⟩:=h
 have hc:=heap_setCell_same _ M 1 _ _ (.int .i64 (x:Int)) c1
 exact ⟨⟨vd,vo,vp,hc,r1.wrap (dvv_ne _) (fun q=>hnM q.1),r2.wrap (dvv_ne _) (fun q=>hnM q.1),r3.wrap (nv_ne _) (fun q=>hnM q.1)⟩,hs,h3,h4,h5,h6⟩
theorem MtIn.set_time (h:MtIn W F M P m) (x:Nat):MtIn (W.setCell ⟨M,2,none⟩ (.int .i64 (x:Int))) F M P { m with time:=x }:=by
 have hs:=h.wrap (i:=2) (.int .i64 (x:Int))
 have hnM:=h.nM
 obtain ⟨⟨vd,vo,vp,c1,r1,r2,r3⟩,h2,h3,h4,h5,h6⟩:=h
 have hc:=heap_setCell_same _ M 2 _ _ (.int .i64 (x:Int)) c1
 exact ⟨⟨vd,vo,vp,hc,r1.wrap (dvv_ne _) (fun q=>hnM q.1),r2.wrap (dvv_ne _) (fun q=>hnM q.1),r3.wrap (nv_ne _) (fun q=>hnM q.1)⟩,hs,h3,h4,h5,h6⟩
theorem MtIn.set_area (h:MtIn W F M P m) (x:Nat):MtIn (W.setCell ⟨M,5,none⟩ (.int .i64 (x:Int))) F M P { m with area:=x }:=by
 have hs:=h.wrap (i:=5) (.int .i64 (x:Int))
 have hnM:=h.nM
 obtain ⟨⟨vd,vo,vp,c1,r1,r2,r3⟩,h2,h3,h4,h5,h6⟩:=h
 have hc:=heap_setCell_same _ M 5 _ _ (.int .i64 (x:Int)) c1
 exact ⟨⟨vd,vo,vp,hc,r1.wrap (dvv_ne _) (fun q=>hnM q.1),r2.wrap (dvv_ne _) (fun q=>hnM q.1),r3.wrap (nv_ne _) (fun q=>hnM q.1)⟩,hs,h3,h4,h5,h6⟩
theorem MtIn.set_root (h:MtIn W F M P m) (x:Nat):MtIn (W.setCell ⟨M,6,none⟩ (.int .i64 (x:Int))) F M P { m with root:=x }:=by
 have hs:=h.wrap (i:=6) (.int .i64 (x:Int))
 have hnM:=h.nM
 obtain ⟨⟨vd,vo,vp,c1,r1,r2,r3⟩,h2,h3,h4,h5,h6⟩:=h
 have hc:=heap_setCell_same _ M 6 _ _ (.int .i64 (x:Int)) c1
 exact ⟨⟨vd,vo,vp,hc,r1.wrap (dvv_ne _) (fun q=>hnM q.1),r2.wrap (dvv_ne _) (fun q=>hnM q.1),r3.wrap (nv_ne _) (fun q=>hnM q.1)⟩,hs,h3,h4,h5,h6⟩
theorem MtIn.set_tree (h:MtIn W F M P m) (x:Nat):MtIn (W.setCell ⟨M,7,none⟩ (.int .i64 (x:Int))) F M P { m with tree:=x }:=by
 have hs:=h.wrap (i:=7) (.int .i64 (x:Int))
 have hnM:=h.nM
 obtain ⟨⟨vd,vo,vp,c1,r1,r2,r3⟩,h2,h3,h4,h5,h6⟩:=h
 have hc:=heap_setCell_same _ M 7 _ _ (.int .i64 (x:Int)) c1
 exact ⟨⟨vd,vo,vp,hc,r1.wrap (dvv_ne _) (fun q=>hnM q.1),r2.wrap (dvv_ne _) (fun q=>hnM q.1),r3.wrap (nv_ne _) (fun q=>hnM q.1)⟩,hs,h3,h4,h5,h6⟩
theorem MtIn.set_done (h:MtIn W F M P m) (x:Bool):MtIn (W.setCell ⟨M,14,none⟩ (.bool x)) F M P { m with done:=x }:=by
 have hs:=h.wrap (i:=14) (.bool x)
 have hnM:=h.nM
 obtain ⟨⟨vd,vo,vp,c1,r1,r2,r3⟩,h2,h3,h4,h5,h6⟩:=h
 have hc:=heap_setCell_same _ M 14 _ _ (.bool x) c1
 exact ⟨⟨vd,vo,vp,hc,r1.wrap (dvv_ne _) (fun q=>hnM q.1),r2.wrap (dvv_ne _) (fun q=>hnM q.1),r3.wrap (nv_ne _) (fun q=>hnM q.1)⟩,hs,h3,h4,h5,h6⟩
theorem MtIn.set_dv (h:MtIn W F M P m) {L:List Dv} {v:Value} (hr:RowO W (OutF F P) (dvv L) L.length v) (hl:L.length≤64):MtIn (W.setCell ⟨M,11,none⟩ v) F M P { m with dv:=L }:=by
 have hs:=h.wrap (i:=11) v
 have hnM:=h.nM
 obtain ⟨⟨vd,vo,vp,c1,r1,r2,r3⟩,h2,h3,h4,h5,h6⟩:=h
 have hc:=heap_setCell_same _ M 11 _ _ v c1
 exact ⟨⟨v,vo,vp,hc,hr.wrap (dvv_ne _) (fun q=>hnM q.1),r2.wrap (dvv_ne _) (fun q=>hnM q.1),r3.wrap (nv_ne _) (fun q=>hnM q.1)⟩,hs,h3,hl,h5,h6⟩
theorem MtIn.set_pe (h:MtIn W F M P m) {L:List Nat} {v:Value} (hr:RowO W (OutF F P) (nv L) L.length v) (hl:L.length≤16384):MtIn (W.setCell ⟨M,13,none⟩ v) F M P { m with pe:=L }:=by
 have hs:=h.wrap (i:=13) v
 have hnM:=h.nM
 obtain ⟨⟨vd,vo,vp,c1,r1,r2,r3⟩,h2,h3,h4,h5,h6⟩:=h
 have hc:=heap_setCell_same _ M 13 _ _ v c1
 exact ⟨⟨vd,vo,v,hc,r1.wrap (dvv_ne _) (fun q=>hnM q.1),r2.wrap (dvv_ne _) (fun q=>hnM q.1),hr.wrap (nv_ne _) (fun q=>hnM q.1)⟩,hs,h3,h4,h5,hl⟩
theorem MtIn.cells (h:MtIn W F M P m):∃Ad cd Ao co Ap cp,Cs W M 82 #[.slice (some ⟨P.w,0,none⟩) m.ws.length P.cw,.int .i64 (m.seq:Int),.int .i64 (m.time:Int),.int .i64 (m.data:Int),.int .i64 (m.chunk:Int),.int .i64 (m.area:Int),.int .i64 (m.root:Int),.int .i64 (m.tree:Int),.pointer (some ⟨P.b.p,0,none⟩),.pointer (some ⟨P.d.p,0,none⟩),.pointer (some ⟨P.s,0,none⟩),.slice Ad m.dv.length cd,.slice Ao m.od.length co,.slice Ap m.pe.length cp,.bool m.done]∧
  RowO W (OutF F P) (dvv m.dv) m.dv.length (.slice Ad m.dv.length cd)∧RowO W (OutF F P) (dvv m.od) m.od.length (.slice Ao m.od.length co)∧RowO W (OutF F P) (nv m.pe) m.pe.length (.slice Ap m.pe.length cp):=by
 obtain ⟨⟨vd,vo,vp,c1,r1,r2,r3⟩,h2,h3,h4,h5,h6⟩:=h
 obtain ⟨Ad,cd,rfl⟩:=r1.form
 obtain ⟨Ao,co,rfl⟩:=r2.form
 obtain ⟨Ap,cp,rfl⟩:=r3.form
 exact ⟨Ad,cd,Ao,co,Ap,cp,c1,r1,r2,r3⟩
theorem RowO.own {W:World} {Out:Nat→Prop} {l:List Value} {n base size c:Nat} {e:TypeId} {A:Option Addr} (h:W.ownsRow base e size (.slice A n c) n l) (hO:∀j,base≤j→j<W.heap.size→Out j):RowO W Out l n (.slice A n c):=
 ⟨A,c,rfl,Reads.of_own h,own_cap h,fun _ p hp=>by
  obtain ⟨g1,g2,_⟩:=own_ge h p hp
  exact ⟨hO _ g1 g2,g2⟩⟩
theorem MtIn.nP (h:MtIn W F M P m):¬P.has M:=fun q=>h.nM (h.st.inF _ q)
end
end
end Go.Proofs.YtplhdjdkobddnaaGreat
