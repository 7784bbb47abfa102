/- NodeH -/
import Derived.Test.YtplhdjdkobddnaaGreatTr5
set_option linter.unusedVariables false
set_option maxRecDepth 100000
set_option maxHeartbeats 40000000
namespace Go.Proofs.YtplhdjdkobddnaaGreat
section
open Go.RowKit
def entAt (l:List Nat) (i:Nat):Int × Nat:=(((l[1+i]?.getD 0:Nat):Int),l[8+i]?.getD 0)
def okAt (l:List Nat) (cnt i:Nat):Bool:=decide (l[1+i]?.getD 0≤16777215∧(cnt≤i→l[1+i]?.getD 0=0∧l[8+i]?.getD 0=0))
def okAll (l:List Nat) (cnt:Nat):Bool:=(List.range 7).all (okAt l cnt)
def cntN (l:List Nat):Nat:=(l[0]?.getD 0) / 256 % 16
def lvN (l:List Nat):Nat:=(l[0]?.getD 0) / 16 % 16
def sqN (l:List Nat):Nat:=l[15]?.getD 0
def decE (l:List Nat) (block:Int):Int:=
 if sealedN l 2 block≠0 then sealedN l 2 block else
 if 7<cntN l∨16777215<sqN l then 24 else
 if okAll l (cntN l)=false then 24 else
 if validN (lvN l) (sqN l) (upto (entAt l) (cntN l))≠0 then 24 else 0
theorem okAll_at {l:List Nat} {cnt i:Nat} (h:okAt l cnt i=false) (hi:i<7):okAll l cnt=false:=by
 unfold okAll
 rw[List.all_eq_false]
 exact ⟨i,List.mem_range.2 hi,by simp[h]⟩
theorem okAll_of {l:List Nat} {cnt:Nat} (h:∀i,i<7→okAt l cnt i=true):okAll l cnt=true:=by
 unfold okAll
 rw[List.all_eq_true]
 intro i hi
 exact h i (List.mem_range.1 hi)
def Cs (w:World) (g:Nat) (t:TypeId) (cs:Array Value):Prop:=w.heap[g]? =some (.cells cs t (0,0))
theorem Cs.lt {w:World} {g:Nat} {t:TypeId} {cs:Array Value} (h:Cs w g t cs):g<w.heap.size:=(Array.getElem?_eq_some_iff.1 h).1
theorem Cs.cell {w:World} {g:Nat} {t:TypeId} {cs:Array Value} (h:Cs w g t cs) (i:Nat):w.cell? ⟨g,i,none⟩=cs[i]?:=cell_of_row w g i cs t (0,0) h
theorem Cs.free {w:World} {g:Nat} {t:TypeId} {cs:Array Value} (h:Cs w g t cs) (i:Nat):w.frozen? ⟨g,i,none⟩=false:=frozen_of_row w g i cs t h
theorem Cs.below {w w':World} {g B:Nat} {t:TypeId} {cs:Array Value} (h:Cs w g t cs) (hb:Below B w w') (hg:g<B):Cs w' g t cs:=(hb.block g hg).trans h
theorem Cs.new (w:World) (t:TypeId) (cs:Array Value):Cs (w.alloc (.cells cs t)) w.heap.size t cs:=heap_alloc_new w _
theorem Cs.set3 {w:World} {g:Nat} {t:TypeId} {a b c u:Value} (h:Cs w g t #[a,b,c]):Cs (w.setCell ⟨g,2,none⟩ u) g t #[a,b,u]:=heap_setCell_same w g 2 _ t u h
theorem Cs.put3 {w:World} {g:Nat} {t:TypeId} {a b c:Value} (h:Cs w g t #[a,b,c]) (x y z:Value):Cs (((w.setCell ⟨g,0,none⟩ x).setCell ⟨g,1,none⟩ y).setCell ⟨g,2,none⟩ z) g t #[x,y,z]:=by
 have h1:Cs (w.setCell ⟨g,0,none⟩ x) g t #[x,b,c]:=heap_setCell_same w g 0 _ t x h
 have h2:Cs ((w.setCell ⟨g,0,none⟩ x).setCell ⟨g,1,none⟩ y) g t #[x,y,c]:=heap_setCell_same _ g 1 _ t y h1
 exact heap_setCell_same _ g 2 _ t z h2
theorem Cs.at3 {w:World} {g:Nat} {t:TypeId} {a b c:Value} (h:Cs w g t #[a,b,c]):w.cell? ⟨g,0,none⟩=some a∧w.cell? ⟨g,1,none⟩=some b∧w.cell? ⟨g,2,none⟩=some c∧w.frozen? ⟨g,0,none⟩=false∧w.frozen? ⟨g,1,none⟩=false∧w.frozen? ⟨g,2,none⟩=false:=
 ⟨h.cell 0,h.cell 1,h.cell 2,h.free 0,h.free 1,h.free 2⟩
theorem below_put3 {B g:Nat} {w w':World} (h:Below B w w') (hg:B≤g) (x y z:Value):Below B w (((w'.setCell ⟨g,0,none⟩ x).setCell ⟨g,1,none⟩ y).setCell ⟨g,2,none⟩ z):=
 ((h.setCell (p:=⟨g,0,none⟩) hg x).setCell (p:=⟨g,1,none⟩) hg y).setCell (p:=⟨g,2,none⟩) hg z
theorem Cs.not_row {w:World} {g base:Nat} {t e:TypeId} {cs:Array Value} {size n:Nat} {v:Value} {xs:List Value} (h:Cs w g t cs) (hr:w.ownsRow base e size v n xs) (hne:t≠e):some g≠v.ownBlock:=by
 rcases hr.2 with ⟨rfl,_⟩| ⟨g',cap,cur,rfl,_,hh,_⟩
 ·simp[Value.ownBlock]
 ·intro he
  have:g=g':=by simpa[Value.ownBlock] using he
  subst this
  unfold Cs at h
  rw[h] at hh
  injection hh with hh
  injection hh with _ ht
  exact hne ht
theorem Cs.grown {w w':World} {g:Nat} {t:TypeId} {cs:Array Value} {row:Option Nat} (h:Cs w g t cs) (hg:w.grownBy w' row) (hr:some g≠row):Cs w' g t cs:=(hg.block g h.lt hr).trans h
theorem Cs.alloc {w:World} {g:Nat} {t:TypeId} {cs:Array Value} (h:Cs w g t cs) (o:Obj):Cs (w.alloc o) g t cs:=h.below ((Below.refl _ w).alloc (Nat.le_refl _) o) h.lt
theorem upto_E64 (l:List Nat) (cn:Nat) (hl:W64 l) (h:∀i,i<cn→l[1+i]?.getD 0≤16777215):E64 (upto (entAt l) cn):=by
 intro p hp
 obtain ⟨i,hi,rfl⟩:=List.mem_map.1 hp
 have h1:=h i (List.mem_range.1 hi)
 have h2:=hl.at (8+i)
 unfold entAt
 exact ⟨by simp only[];omega,by simp only[];omega,h2⟩
theorem ev_snoc (l:List (Int × Nat)) (p:Int × Nat):ev (l++ [p])=ev l++ [.int .i64 p.1,.int .u64 (p.2:Int)]:=by rw[ev_append];rfl
def DecI (l:List Nat) (cn lv sq:Nat) (w3:World) (k:Nat) (wr:World):Prop:=
 ∃v,Cs wr w3.heap.size 129 #[.int .i64 (lv:Int),.int .i64 (sq:Int),v]∧wr.ownsRow (w3.heap.size+1) 94 2 v (min k cn) (ev (upto (entAt l) (min k cn)))∧Below w3.heap.size w3 wr∧w3.heap.size+1≤wr.heap.size
theorem DecI.put {w5 w6:World} {Bn base n:Nat} {a b v v1:Value} {xs ys:List Value} {o:Obj} {m:Nat}
  (hc:Cs w5 Bn 129 #[a,b,v]) (hr:w5.ownsRow base 94 2 v n xs) (h1:w6.ownsRow base 94 2 v1 m ys) (hg:(w5.alloc o).grownBy w6 v.ownBlock) (hB:Bn<base) (hs:base≤w5.heap.size) :
  Cs w6 Bn 129 #[a,b,v]∧Cs (w6.setCell ⟨Bn,2,none⟩ v1) Bn 129 #[a,b,v1]∧(w6.setCell ⟨Bn,2,none⟩ v1).ownsRow base 94 2 v1 m ys∧Below Bn w5 (w6.setCell ⟨Bn,2,none⟩ v1)∧base≤(w6.setCell ⟨Bn,2,none⟩ v1).heap.size:=by
 have hc6:Cs w6 Bn 129 #[a,b,v]:=(hc.alloc o).grown hg (hc.not_row hr (by decide))
 have hbl:Below base w5 w6:=app_below hr hg hs
 refine ⟨hc6,hc6.set3,h1.kept (row:=some Bn) ⟨rfl,rfl,rfl,by simp,fun j _ hj=>Below.heap_setCell _ _ _ j (fun e=>hj (by rw[e]))⟩ (.inr (fun e=>hc6.not_row h1 (by decide) e.symm)),(hbl.mono (Nat.le_of_lt hB)).setCell (p:=⟨Bn,2,none⟩) (Nat.le_refl _) _,?_⟩
 have:=hbl.size
 simp
 omega
theorem own_keepB {w w':World} {base:Nat} {e:TypeId} {size n:Nat} {v:Value} {xs:List Value} (h:w.ownsRow base e size v n xs) (hb:Below w.heap.size w w'):w'.ownsRow base e size v n xs:=
 ⟨h.1,h.2.imp id fun ⟨g,cap,cur,q1,q2,q3,q4⟩=>⟨g,cap,cur,q1,q2,(hb.block g (Array.getElem?_eq_some_iff.1 q3).1).trans q3,q4⟩⟩
theorem entry_info:(Tryz.prog.info? 94).map (fun i=>(i.zero,i.size,i.bytes))=some (some (.agg #[.int .i64 0,.int .u64 0]),2,16):=by kernel_rfl
theorem decode_no (A:Option Addr) (c n:Nat) (l:List Nat) (block:Int) (w:World) (hn:l.length=n) (hA:Reads w A (uv l)) (hl:W64 l) (hlen:n≤1000000) (hE:sealedN l 2 block≠0) :
  Calls Tryz.prog 140 #[.slice A n c,.int .i64 block] w fun e w'=>e=.returned (.tuple #[.agg #[.int .i64 0,.int .i64 0,.slice none 0 0],.int .i64 (sealedN l 2 block)])∧Below w.heap.size w w':=by
 have HS:=Hi (sealed_any A c n l 2 block (w.alloc (.cells #[.int .i64 0,.int .i64 0,.slice none 0 0] 129)) hn (hA.alloc _) hl hlen)
 have hb0:Below w.heap.size w (w.alloc (.cells #[.int .i64 0,.int .i64 0,.slice none 0 0] 129)):=(Below.refl _ _).alloc (Nat.le_refl _) _
 have hC:=Cs.new w 129 #[.int .i64 0,.int .i64 0,.slice none 0 0]
 generalize sealedN l 2 block=v at *
 have hv1:(v != 0)=true:=by simpa using hE
 clear hE hn
 go_enter Tryz.func140,Tryz.ntmps140
 go_wp2_with fail
 refine HS.out.mono ?_
 rintro e w1 ⟨rfl,hb1⟩
 have hC1:=hC.below hb1 (by simp)
 obtain ⟨x0,x1,x2,y0,y1,y2⟩:=hC1.at3
 have hbw:=hb0.trans (hb1.mono hb0.size)
 have hC2:=hC1.put3 (.int .i64 0) (.int .i64 0) (.slice none 0 0)
 have hb2:=below_put3 hbw (Nat.le_refl _) (.int .i64 0) (.int .i64 0) (.slice none 0 0)
 have HC2:=Hi hC2
 clear hC hC1 hC2
 go_wp2_with fail
 generalize (((w1.setCell _ _).setCell _ _).setCell _ _)=w2 at HC2 hb2 ⊢
 clear x0 x1 x2 y0 y1 y2
 obtain ⟨x0,x1,x2,_⟩:=HC2.out.at3
 exact bodyPost_ret (v:=.tuple #[.agg #[.int .i64 0,.int .i64 0,.slice none 0 0],.int .i64 v]) (by simp[results,Tryz.f140,go_sem,x0,x1,x2]) rfl ⟨rfl,hb2⟩
def DecP (l:List Nat) (block:Int) (w:World) (e:Ending) (w':World):Prop:=
 (e=.returned (.tuple #[.agg #[.int .i64 0,.int .i64 0,.slice none 0 0],.int .i64 24])∧decE l block=24∧Below w.heap.size w w')∨
 (∃v,e=.returned (.tuple #[.agg #[.int .i64 (lvN l:Int),.int .i64 (sqN l:Int),v],.int .i64 0])∧decE l block=0∧w'.ownsRow w.heap.size 94 2 v (cntN l) (ev (upto (entAt l) (cntN l)))∧Below w.heap.size w w')
theorem decode_yes (A:Option Addr) (c n:Nat) (l:List Nat) (block:Int) (w:World) (hn:l.length=n) (hA:Reads w A (uv l)) (hl:W64 l) (hlen:n≤1000000) (hE:sealedN l 2 block=0) :
  Calls Tryz.prog 140 #[.slice A n c,.int .i64 block] w (DecP l block w):=by
 obtain ⟨i0,hi0,hz0,hz1,hz2⟩:=info_parts entry_info
 have h16:n=16:=by
  unfold sealedN at hE
  rw[hn] at hE
  by_cases h:n=16
  ·exact h
  ·rw[if_pos h] at hE;cases hE
 subst h16
 have HS:=Hi (sealed_any A c 16 l 2 block (w.alloc (.cells #[.int .i64 0,.int .i64 0,.slice none 0 0] 129)) hn (hA.alloc _) hl hlen)
 have HN:=Hi hn
 have HDE:Hid (decE l block=if 7<cntN l∨16777215<sqN l then 24 else
  if okAll l (cntN l)=false then 24 else
  if validN (lvN l) (sqN l) (upto (entAt l) (cntN l))≠0 then 24 else 0):=by
  show _=_
  unfold decE
  rw[if_neg (by omega)]
 have hb0:Below w.heap.size w (w.alloc (.cells #[.int .i64 0,.int .i64 0,.slice none 0 0] 129)):=(Below.refl _ _).alloc (Nat.le_refl _) _
 have hC:=Cs.new w 129 #[.int .i64 0,.int .i64 0,.slice none 0 0]
 rw[hE] at HS
 have hx:=hl.at 0
 obtain ⟨b,off,rfl,hbl,hc⟩:=hA.u (by omega)
 have hc0:=hc 0 (by omega)
 have hc15:=hc 15 (by omega)
 have hl15:=hl.at 15
 rw[Nat.add_zero] at hc0
 have HC:=Hi hc
 have eC:Hid (cntN l=(l[0]?.getD 0) / 256 % 16):=rfl
 have eL:Hid (lvN l=(l[0]?.getD 0) / 16 % 16):=rfl
 have eS:Hid (sqN l=l[15]?.getD 0):=rfl
 obtain ⟨x,ex⟩ :∃x,l[0]?.getD 0=x:=⟨_,rfl⟩
 obtain ⟨z,ez⟩ :∃z,l[15]?.getD 0=z:=⟨_,rfl⟩
 rw[ex] at hc0 hx eC eL
 rw[ez] at hc15 hl15 eS
 clear hE hn hc ex ez
 go_enter Tryz.func140,Tryz.ntmps140
 go_wp2_with fail
 refine HS.out.mono ?_
 rintro e w1 ⟨rfl,hb1⟩
 have hC1:=hC.below hb1 (by simp)
 have hbw1:=hb0.trans (hb1.mono hb0.size)
 have hlt1:w.heap.size<w1.heap.size:=hC1.lt
 have hca:=(hbw1.cell (p:=⟨b,off,none⟩) hbl).trans hc0
 have hb11:b<w1.heap.size:=by omega
 have HCS1:=Hi hC1
 clear hc0 hC hC1 hb0 hb1 HS
 go_wp2_with fail
 go_region_held3 (fun w'=>w'.cell? ⟨b,off,none⟩=some (.int .u64 (x:Int))) (first|exact hca|exact hcA|exact hcB)
  (first
   |(go_at_call 109;refine (widths_any _).mono ?_;rintro e w2 ⟨rfl,hr2,hb2⟩;have hcA:=(hb2.cell (p:=⟨b,off,none⟩) hb11).trans hca)
   |(go_at_call 63;refine (split_widths x _ _ hr2 hx).mono ?_;rintro e w3 ⟨g,d,rfl,hg1,hg2,hg3,hb3⟩;have hcB:=(hb3.cell (p:=⟨b,off,none⟩) (Nat.lt_of_lt_of_le hb11 hb2.size)).trans hcA))
 have f1:w3.cell? ⟨g,1,none⟩=some (.int .u64 ((x / 16 % 16:Nat):Int)):=hg3 1 (by omega)
 have f2:w3.cell? ⟨g,2,none⟩=some (.int .u64 ((x / 256 % 16:Nat):Int)):=hg3 2 (by omega)
 rw[←eL.out] at f1
 rw[←eC.out] at f2
 have q1:lvN l<16:=by rw[eL.out];omega
 have q2:cntN l<16:=by rw[eC.out];omega
 have hb13:Below w1.heap.size w1 w3:=((Below.refl w1.heap.size w1).drew.trans hb2).trans (hb3.mono hb2.size)
 have hbw3:=hbw1.trans (hb13.mono hbw1.size)
 have hc15a:=(hbw3.cell (p:=⟨b,off+15,none⟩) hbl).trans hc15
 have hC3:=HCS1.out.below hb13 hlt1
 have hEn:sqN l=z:=eS.out
 rw[←hEn] at hc15a hl15
 clear hg3 hcA hcB hca hr2 hb2 hb3 hc15 hEn
 have HP:Hid (∀e w',DecP l block w e w'↔(e=.returned (.tuple #[.agg #[.int .i64 0,.int .i64 0,.slice none 0 0],.int .i64 24])∧decE l block=24∧Below w.heap.size w w')∨
  (∃v,e=.returned (.tuple #[.agg #[.int .i64 (lvN l:Int),.int .i64 (sqN l:Int),v],.int .i64 0])∧decE l block=0∧w'.ownsRow w.heap.size 94 2 v (cntN l) (ev (upto (entAt l) (cntN l)))∧Below w.heap.size w w')):=fun e w'=>Iff.rfl
 generalize cntN l=cn at *
 generalize lvN l=lv at *
 generalize sqN l=sq at *
 obtain ⟨x0,x1,x2,y0,y1,y2⟩:=hC3.at3
 have hbad:=hC3.put3 (.int .i64 0) (.int .i64 0) (.slice none 0 0)
 have hbb:=below_put3 hbw3 (Nat.le_refl _) (.int .i64 0) (.int .i64 0) (.slice none 0 0)
 have HBAD:=Hi hbad
 have HC3:=Hi hC3
 clear hbad hC3
 by_cases hlim:7<cn∨16777215<sq
 ·have HD:Hid (decE l block=24):=by show _=_;rw[HDE.out,if_pos hlim]
  by_cases h7:7<cn
  ·go_wp2_with fail
   generalize (((w3.setCell _ _).setCell _ _).setCell _ _)=w4 at HBAD hbb ⊢
   clear x0 x1 x2 y0 y1 y2
   obtain ⟨x0,x1,x2,_⟩:=HBAD.out.at3
   exact bodyPost_ret (v:=.tuple #[.agg #[.int .i64 0,.int .i64 0,.slice none 0 0],.int .i64 24]) (by simp[results,Tryz.f140,go_sem,x0,x1,x2]) rfl (.inl ⟨rfl,HD.out,hbb⟩)
  ·have hsq:16777215<sq:=by omega
   go_wp2_with fail
   generalize (((w3.setCell _ _).setCell _ _).setCell _ _)=w4 at HBAD hbb ⊢
   clear x0 x1 x2 y0 y1 y2
   obtain ⟨x0,x1,x2,_⟩:=HBAD.out.at3
   exact bodyPost_ret (v:=.tuple #[.agg #[.int .i64 0,.int .i64 0,.slice none 0 0],.int .i64 24]) (by simp[results,Tryz.f140,go_sem,x0,x1,x2]) rfl (.inl ⟨rfl,HD.out,hbb⟩)
 ·have h7:¬7<cn:=by omega
  have hsq:¬16777215<sq:=by omega
  have HD:Hid (decE l block=if okAll l cn=false then 24 else if validN lv sq (upto (entAt l) cn)≠0 then 24 else 0):=by show _=_;rw[HDE.out,if_neg hlim]
  clear hlim HDE HBAD hbb
  have hb3l:b<w3.heap.size:=Nat.lt_of_lt_of_le hbl hbw3.size
  go_wp2_with fail
  go_region
  go_wp2_with fail
  have hI:DecI l cn lv sq w3 0 (w3.alloc (.cells #[.int .i64 (lv:Int),.int .i64 (sq:Int),.slice none 0 0] 129)).drew:=by
   refine ⟨_,Cs.new w3 _ _,?_,((Below.refl _ w3).alloc (Nat.le_refl _) _).drew,by simp⟩
   rw[show min 0 cn=0 by omega]
   exact World.ownsRow_nil _ _ _ _
  have HI:=Hi hI
  clear hI x0 x1 x2 y0 y1 y2 f1 f2 hc15a
  generalize (w3.alloc _).drew=w4 at HI ⊢
  go_loopw [51] (fun i wr=>∃k:Nat,k≤7∧i=.int .i64 k∧DecI l cn lv sq w3 k wr∧Hid (∀j,j<k→okAt l cn j=true)) (fun i _=>7 - (intOf i).toNat)
  case atStart=>exact ⟨0,by omega,rfl,HI.out,fun j hj=>absurd hj (by omega)⟩
  case round=>
   obtain ⟨k,hk,rfl,hI,hok⟩:=hrel
   obtain ⟨v,hCs,hrow,hbr,hsz⟩:=hI
   obtain ⟨A1,c1,rfl⟩:=own_form hrow
   have hbwr:=hbw3.trans (hbr.mono hbw3.size)
   have hC0:=HC3.out.below hbr (show w.heap.size<w3.heap.size from HC3.out.lt)
   obtain ⟨x0,x1,x2,y0,y1,y2⟩:=hC0.at3
   have hbad:=hC0.put3 (.int .i64 0) (.int .i64 0) (.slice none 0 0)
   have hbb:=below_put3 hbwr (Nat.le_refl _) (.int .i64 0) (.int .i64 0) (.slice none 0 0)
   have HBAD:=Hi hbad
   clear hbad
   by_cases hlt:k<7
   ·have g1:=(hbwr.cell (p:=⟨b,off+(1+k),none⟩) hbl).trans (HC.out (1+k) (by rw[HN.out];omega))
    have g2:=(hbwr.cell (p:=⟨b,off+(8+k),none⟩) hbl).trans (HC.out (8+k) (by rw[HN.out];omega))
    have hr64:=hl.at (8+k)
    have hp64:=hl.at (1+k)
    have HOK:Hid (okAt l cn k=decide (l[1+k]?.getD 0≤16777215∧(cn≤k→l[1+k]?.getD 0=0∧l[8+k]?.getD 0=0))):=rfl
    have HEA:Hid (entAt l k=(((l[1+k]?.getD 0:Nat):Int),l[8+k]?.getD 0)):=rfl
    obtain ⟨p,ep⟩ :∃p,l[1+k]?.getD 0=p:=⟨_,rfl⟩
    obtain ⟨r,er⟩ :∃r,l[8+k]?.getD 0=r:=⟨_,rfl⟩
    rw[ep] at g1 hp64 HOK HEA
    rw[er] at g2 hr64 HOK HEA
    clear ep er
    have t1:IntKind.i64.wrap (1+(k:Int))=1+(k:Int):=IntWalk.i64_in _ (by omega)
    have t2:IntKind.i64.wrap (8+(k:Int))=8+(k:Int):=IntWalk.i64_in _ (by omega)
    have t3:(1+(k:Int)).toNat=1+k:=by omega
    have t4:(8+(k:Int)).toNat=8+k:=by omega
    have t5:(0:Int)≤1+(k:Int):=by omega
    have t6:(0:Int)≤8+(k:Int):=by omega
    have t7:1+(k:Int)<16:=by omega
    have t8:8+(k:Int)<16:=by omega
    have HCs:=Hi hCs
    have HROW:=Hi hrow
    clear hCs hrow
    go_wp2_with fail
    go_quiet (fail)
    have HCs5:Hid (Cs (wr.drewN nq) w3.heap.size 129 #[.int .i64 (lv:Int),.int .i64 (sq:Int),.slice A1 (min k cn) c1]):=HCs.out
    have HROW5:Hid ((wr.drewN nq).ownsRow (w3.heap.size+1) 94 2 (.slice A1 (min k cn) c1) (min k cn) (ev (upto (entAt l) (min k cn)))):=HROW.out
    have hbr5:=below_drewN hbr nq
    have hsz5:w3.heap.size+1≤(wr.drewN nq).heap.size:=hsz
    have hC05:=Hi (show Cs (wr.drewN nq) w.heap.size 129 _ from hC0)
    have hbwr5:=below_drewN hbwr nq
    clear HCs HROW hbr hsz hC0 hbwr HBAD hbb t1 t2 t3 t4 t5 t6 t7 t8 g1 g2 x0 x1 x2 y0 y1 y2
    generalize (wr.drewN nq)=w5 at HCs5 HROW5 hbr5 hsz5 hC05 hbwr5 ⊢
    obtain ⟨x0,x1,x2,y0,y1,y2⟩:=hC05.out.at3
    have hbad:=hC05.out.put3 (.int .i64 0) (.int .i64 0) (.slice none 0 0)
    have hbb:=below_put3 hbwr5 (Nat.le_refl _) (.int .i64 0) (.int .i64 0) (.slice none 0 0)
    have HBAD:=Hi hbad
    clear hbad
    by_cases hokk:okAt l cn k=true
    ·have hp:p≤16777215∧(cn≤k→p=0∧r=0):=by
      have h:=hokk
      rw[HOK.out] at h
      exact of_decide_eq_true h
     have HOKS:Hid (∀j,j<k+1→okAt l cn j=true):=by
      intro j hj
      by_cases e:j=k
      ·rw[e];exact hokk
      ·exact hok.out j (by omega)
     have hp1:¬16777215<p:=by omega
     clear HBAD hbb
     by_cases hck:cn≤k
     ·have hp0:=hp.2 hck
      have z1:((p:Int) != 0)=false:=by simp;omega
      have z2:((r:Int) != 0)=false:=by simp;omega
      have hck2:¬k<cn:=by omega
      clear hp hp0 hokk
      go_wp2_with fail
      go_roundw
      case rel=>
       refine ⟨k+1,by omega,by go_num,⟨_,HCs5.out,?_,hbr5,hsz5⟩,HOKS⟩
       have h:=HROW5.out
       rw[show min k cn=cn by omega] at h ⊢
       rw[show min (k+1) cn=cn by omega]
       exact h
      case measure=>simp[intOf];omega
     ·have hck2:k<cn:=by omega
      have hm:min k cn=k:=by omega
      rw[hm] at HCs5 HROW5
      obtain ⟨u0,u1,u2,v0,v1,v2⟩:=HCs5.out.at3
      clear hp hokk hm
      have hEA:=HEA.out
      go_wp2_with (at_builtin;refine wpList_append_reads _ (by rfl) _ _ _ (by rfl) (w3.heap.size+1) 94 i0 _ 2 16 Tryz.underlying87 hi0 hz0 hz1 hz2 (by rfl) (by omega) (.slice A1 k c1) k (ev (upto (entAt l) k)) (by rfl) (HROW5.out.alloc _) (some ⟨w5.heap.size,0,none⟩) 1 1 [.int .i64 (p:Int),.int .u64 (r:Int)] (by rfl) (by rfl) (Reads.new _ _ _) (by simp[Value.oneCell']) (by simp only[maxLen];omega) (by omega) (by simp;omega) ?_;intro v9 w6 hown6 hg6 hat6;obtain ⟨A2,c2,rfl⟩:=own_form hown6;obtain ⟨s1,s2,s3,s4,s5⟩:=DecI.put HCs5.out HROW5.out hown6 hg6 (by omega) hsz5;obtain ⟨r0,r1,r2,r3,r4,r5⟩:=s1.at3;have S2:=Hi s2;have S3:=Hi s3;clear s1 s2 s3 hown6 hg6 hat6 u0 u1 u2 v0 v1 v2 hEA)
      go_roundw
      case rel=>
       refine ⟨k+1,by omega,by go_num,⟨_,S2.out,?_,hbr5.trans s4,s5⟩,HOKS⟩
       have h:=S3.out
       rw[show min (k+1) cn=k+1 by omega,upto_succ,ev_snoc,HEA.out]
       exact h
      case measure=>simp[intOf];omega
    ·have HD2:Hid (decE l block=24):=by
      show _=_
      rw[HD.out,if_pos (okAll_at (by simpa using hokk) hlt)]
     have hpn:¬(p≤16777215∧(cn≤k→p=0∧r=0)):=by
      intro h
      exact hokk (by rw[HOK.out];exact decide_eq_true h)
     by_cases hck:cn≤k
     ·by_cases hp0:p=0
      ·have z1:((p:Int) != 0)=false:=by simp;omega
       have hr0:r≠0:=fun h=>hpn ⟨by omega,fun _=>⟨hp0,h⟩⟩
       have z2:((r:Int) != 0)=true:=by simp;omega
       clear hpn hp0 hr0 hokk
       go_wp2_with fail
       generalize (((w5.setCell _ _).setCell _ _).setCell _ _)=w6 at HBAD hbb ⊢
       clear x0 x1 x2 y0 y1 y2
       obtain ⟨x0,x1,x2,_⟩:=HBAD.out.at3
       exact bodyPost_ret (v:=.tuple #[.agg #[.int .i64 0,.int .i64 0,.slice none 0 0],.int .i64 24]) (by simp[results,Tryz.f140,go_sem,x0,x1,x2]) rfl (.inl ⟨rfl,HD2.out,hbb⟩)
      ·have z1:((p:Int) != 0)=true:=by simp;omega
       clear hpn hp0 hokk
       go_wp2_with fail
       generalize (((w5.setCell _ _).setCell _ _).setCell _ _)=w6 at HBAD hbb ⊢
       clear x0 x1 x2 y0 y1 y2
       obtain ⟨x0,x1,x2,_⟩:=HBAD.out.at3
       exact bodyPost_ret (v:=.tuple #[.agg #[.int .i64 0,.int .i64 0,.slice none 0 0],.int .i64 24]) (by simp[results,Tryz.f140,go_sem,x0,x1,x2]) rfl (.inl ⟨rfl,HD2.out,hbb⟩)
     ·have hp1:16777215<p:=by
       rcases Nat.lt_or_ge 16777215 p with h|h
       ·exact h
       ·exact absurd ⟨h,fun h=>absurd h hck⟩ hpn
      clear hpn hokk
      go_wp2_with fail
      generalize (((w5.setCell _ _).setCell _ _).setCell _ _)=w6 at HBAD hbb ⊢
      clear x0 x1 x2 y0 y1 y2
      obtain ⟨x0,x1,x2,_⟩:=HBAD.out.at3
      exact bodyPost_ret (v:=.tuple #[.agg #[.int .i64 0,.int .i64 0,.slice none 0 0],.int .i64 24]) (by simp[results,Tryz.f140,go_sem,x0,x1,x2]) rfl (.inl ⟨rfl,HD2.out,hbb⟩)
   ·have hk7:k=7:=by omega
    have hm:min k cn=cn:=by omega
    rw[hm] at hrow hCs
    have HALL:Hid (okAll l cn=true):=okAll_of (fun i hi=>hok.out i (by omega))
    have hE64:E64 (upto (entAt l) cn):=upto_E64 l cn hl (fun i hi=>by
     have h:=hok.out i (by omega)
     exact (of_decide_eq_true h).1)
    have HD2:Hid (decE l block=if validN lv sq (upto (entAt l) cn)≠0 then 24 else 0):=by
     show _=_
     rw[HD.out,HALL.out,if_neg (by simp)]
    obtain ⟨u0,u1,u2,v0,v1,v2⟩:=hCs.at3
    have HV:=Hi (valid_any (lv:Int) (sq:Int) A1 c1 cn (upto (entAt l) cn) wr (upto_length _ _) (Reads.of_own hrow) hE64 (by omega))
    have HCs:=Hi hCs
    have HROW:=Hi hrow
    have HC0:=Hi hC0
    have hltr:w.heap.size<w3.heap.size:=HC3.out.lt
    clear hk7 hCs hrow hC0 HBAD hbb x0 x1 x2 y0 y1 y2
    clear hm
    go_wp2_with fail
    refine HV.out.mono ?_
    rintro e w6 ⟨rfl,hb6⟩
    have hCs6:=HCs.out.below hb6 HCs.out.lt
    have hC6:=HC0.out.below hb6 HC0.out.lt
    have hrow6:=own_keepB HROW.out hb6
    have hbw6:=hbwr.trans (hb6.mono hbwr.size)
    clear u0 u1 u2 v0 v1 v2
    obtain ⟨u0,u1,u2,_⟩:=hCs6.at3
    obtain ⟨x0,x1,x2,y0,y1,y2⟩:=hC6.at3
    have HROW6:=Hi hrow6
    have HC6:=Hi hC6
    clear hrow6 hC6 hCs6
    by_cases hv:validN lv sq (upto (entAt l) cn)=0
    ·have HD3:Hid (decE l block=0):=by show _=_;rw[HD2.out,if_neg (by omega)]
     rw[hv]
     have hgood:=HC6.out.put3 (.int .i64 (lv:Int)) (.int .i64 (sq:Int)) (.slice A1 cn c1)
     have hbb:=below_put3 hbw6 (Nat.le_refl _) (.int .i64 (lv:Int)) (.int .i64 (sq:Int)) (.slice A1 cn c1)
     have HG:=Hi hgood
     have hrow7:(((w6.setCell ⟨w.heap.size,0,none⟩ (.int .i64 (lv:Int))).setCell ⟨w.heap.size,1,none⟩ (.int .i64 (sq:Int))).setCell ⟨w.heap.size,2,none⟩ (.slice A1 cn c1)).ownsRow w.heap.size 94 2 (.slice A1 cn c1) cn (ev (upto (entAt l) cn)):=by
      refine own_lower (HROW6.out.kept (row:=some w.heap.size) ⟨rfl,rfl,rfl,by simp,fun j _ hj=>?_⟩ (.inr (fun e=>HC6.out.not_row HROW6.out (by decide) e.symm))) (by omega)
      rw[Below.heap_setCell _ _ _ j (fun e=>hj (by rw[e])),Below.heap_setCell _ _ _ j (fun e=>hj (by rw[e])),Below.heap_setCell _ _ _ j (fun e=>hj (by rw[e]))]
     have HR7:=Hi hrow7
     clear hrow7 hgood hv
     go_wp2_with fail
     generalize (((w6.setCell _ _).setCell _ _).setCell _ _)=w7 at HG hbb HR7 ⊢
     clear x0 x1 x2 y0 y1 y2
     obtain ⟨x0,x1,x2,_⟩:=HG.out.at3
     exact bodyPost_ret (v:=.tuple #[.agg #[.int .i64 (lv:Int),.int .i64 (sq:Int),.slice A1 cn c1],.int .i64 0]) (by simp[results,Tryz.f140,go_sem,x0,x1,x2]) rfl ((HP.out _ _).2 (.inr ⟨_,rfl,HD3.out,HR7.out,hbb⟩))
    ·have HD3:Hid (decE l block=24):=by show _=_;rw[HD2.out,if_pos hv]
     have hv1:(validN lv sq (upto (entAt l) cn) != 0)=true:=by simpa using hv
     generalize validN lv sq (upto (entAt l) cn)=vn at hv1 ⊢
     have hbad:=HC6.out.put3 (.int .i64 0) (.int .i64 0) (.slice none 0 0)
     have hbb:=below_put3 hbw6 (Nat.le_refl _) (.int .i64 0) (.int .i64 0) (.slice none 0 0)
     have HBAD:=Hi hbad
     clear hbad hv
     go_wp2_with fail
     generalize (((w6.setCell _ _).setCell _ _).setCell _ _)=w7 at HBAD hbb ⊢
     clear x0 x1 x2 y0 y1 y2
     obtain ⟨x0,x1,x2,_⟩:=HBAD.out.at3
     exact bodyPost_ret (v:=.tuple #[.agg #[.int .i64 0,.int .i64 0,.slice none 0 0],.int .i64 24]) (by simp[results,Tryz.f140,go_sem,x0,x1,x2]) rfl (.inl ⟨rfl,HD3.out,hbb⟩)
end
end Go.Proofs.YtplhdjdkobddnaaGreat
