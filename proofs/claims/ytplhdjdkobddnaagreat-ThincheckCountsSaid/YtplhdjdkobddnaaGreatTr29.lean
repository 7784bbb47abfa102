/- MtC MtD MtE -/
import Derived.Test.YtplhdjdkobddnaaGreatTr28
set_option linter.unusedVariables false
set_option maxRecDepth 100000
set_option maxHeartbeats 40000000
namespace Go.Proofs.YtplhdjdkobddnaaGreat
section
open Go.RowKit
attribute [local go_sem] Oper.semAt_some
def InsC (P:SP) (ws:List Nat) (S:St) (k:Bool) (r key v t:Nat) (S':St) (old:Nat) (had:Bool):Prop:=∀(F:Nat→Prop) (w:World),StIn w F P S ws→
 Calls Tryz.prog 91 #[.pointer (some ⟨P.s,0,none⟩),.int .i64 (r:Int),.int .i64 (key:Int),.int .u64 (v:Int),.bool k] w fun e w'=>Fr P.has w w'∧e=.returned (.tuple #[.int .i64 (t:Int),.int .u64 (old:Int),.bool had,.int .i64 0])∧StIn w' (FN F w) P S' ws
def DelC (P:SP) (ws:List Nat) (S:St) (k:Bool) (r key t:Nat) (S':St) (old:Nat):Prop:=∀(F:Nat→Prop) (w:World),StIn w F P S ws→
 Calls Tryz.prog 88 #[.pointer (some ⟨P.s,0,none⟩),.int .i64 (r:Int),.int .i64 (key:Int),.bool k] w fun e w'=>Fr P.has w w'∧e=.returned (.tuple #[.int .i64 (t:Int),.int .u64 (old:Int),.bool true,.int .i64 0])∧StIn w' (FN F w) P S' ws
structure MtR (W w':World) (F:Nat→Prop) (M:Nat) (P:SP) (m':Mt):Prop where
 si:MtIn w' (FN F W) M P m'
 fr:Fr (fun j=>P.has j∨j=M) W w'
section
variable {W w1 w2:World} {F:Nat→Prop} {M:Nat} {P:SP} {m m':Mt}
theorem MtR.step (h:Fr (fun j=>P.has j∨j=M) W w1) (k:MtR w1 w2 (FN F W) M P m'):MtR W w2 F M P m':=by
 refine ⟨k.si.wide (fun j hj _=>?_) (fun j hj=>?_) (fun q=>?_),h.trans k.fr⟩
 ·rcases hj with (q|q)|q
  ·exact .inl q
  ·exact .inr q
  ·exact .inr (Nat.le_trans h.size q)
 ·rcases k.si.st.inF j hj with (q|q)|q
  ·exact .inl q
  ·exact .inr q
  ·exact .inr (Nat.le_trans h.size q)
 ·exact k.si.nM (.inl q)
theorem MtR.refl (h:MtIn W F M P m):MtR W W F M P m:=⟨h.wide (fun j hj _=>.inl hj) (fun j hj=>.inl (h.st.inF j hj)) (fun q=>q.elim h.nM (fun e=>by have:=h.lt;omega)),Fr.refl _ _⟩
end
theorem rset27 (W:World) (F:Nat→Prop) (M:Nat) (P:SP) (m:Mt) (h:MtIn W F M P m) (d:Dv) (hd1:d.id≤65535) (hd2:d.rt<1048576) (hd3:d.tm<1048576) (hd4:d.mp<16777216) {t:Nat} {S':St} {old:Nat} {had:Bool} (hi:InsC P m.ws m.S false m.tree d.id d.val t S' old had) (hl64:(insF m.dv d).length≤64) :
  Calls Tryz.prog 84 #[.pointer (some ⟨M,0,none⟩),d.v] W fun e w'=>e=.returned (.int .i64 0)∧MtR W w' F M P (m.setD d t S'):=by
 refine (rset27_any W F M P m h d hd1 hd2 hd3 hd4 t S' (fun w hw=>(hi F w (h.st.keep hw)).mono ?_) hl64).mono ?_
 ·rintro e w' ⟨q1,q2,q3⟩
  exact ⟨q1,old,had,q2,q3⟩
 ·rintro e w' ⟨q1,q2,q3⟩
  exact ⟨q1,q2,q3⟩
def Mt.createE (m:Mt) (id:Nat):Int:=if hasD m.dv id=true then 16 else if 64≤m.dv.length then 4 else if m.S.bl.free<32 then 26 else 0
def Mt.newS (m:Mt) (b:Nat):Mt:={ m with S:=({ m.S with bl:=m.S.bl.setN b 1 }:St).put b ⟨0,0,[]⟩ }
theorem rcreate27_no (W:World) (F:Nat→Prop) (M:Nat) (P:SP) (m:Mt) (h:MtIn W F M P m) (id:Nat) (hid:id≤65535) (hE:m.createE id≠0) :
  Calls Tryz.prog 37 #[.pointer (some ⟨M,0,none⟩),.int .i64 (id:Int)] W fun e w'=>e=.returned (.int .i64 (m.createE id))∧W=w':=by
 have hb:=Hi (rbadid_any id W hid)
 have hh:=Hi (rhas_any h id)
 have hf:=Hi (rfreemeta_any h)
 obtain ⟨Ad,cd,Ao,co,Ap,cp,c1,-⟩:=h.cells
 have x11:=c1.cell 11
 have HE:Hid (m.createE id=if hasD m.dv id=true then 16 else if 64≤m.dv.length then 4 else if m.S.bl.free<32 then 26 else 0):=rfl
 obtain ⟨hv,hhv⟩ :∃q,hasD m.dv id=q:=⟨_,rfl⟩
 obtain ⟨n,hn⟩ :∃q,m.dv.length=q:=⟨_,rfl⟩
 obtain ⟨fr,hfr⟩ :∃q,m.S.bl.free=q:=⟨_,rfl⟩
 obtain ⟨E,hEE⟩ :∃q,m.createE id=q:=⟨_,rfl⟩
 rw[hhv] at hh HE
 rw[hn] at x11 HE
 rw[hfr] at hf HE
 rw[hEE] at HE hE ⊢
 clear c1 hhv hn hfr hEE h
 cases hv
 ·by_cases h1:64≤n
  ·obtain rfl:E=4:=by have:=HE.out;rw[if_neg (by simp),if_pos h1] at this;exact this
   have d1:(64:Int)≤(n:Int):=by omega
   go_enter Tryz.func37,Tryz.ntmps37
   go_wp2_with fail
   refine hb.out.mono ?_
   rintro e w' ⟨rfl,rfl⟩
   go_wp2_with fail
   refine hh.out.mono ?_
   rintro e w' ⟨rfl,rfl⟩
   go_wp2_with fail
   go_ret
   exact ⟨rfl,rfl⟩
  ·have h2:fr<32:=by
    have:=HE.out
    rw[if_neg (by simp),if_neg h1] at this
    by_cases q:fr<32
    ·exact q
    ·rw[if_neg q] at this
     exact absurd this hE
   obtain rfl:E=26:=by have:=HE.out;rw[if_neg (by simp),if_neg h1,if_pos h2] at this;exact this
   have d1:¬(64:Int)≤(n:Int):=by omega
   have d2:(fr:Int)<32:=by omega
   go_enter Tryz.func37,Tryz.ntmps37
   go_wp2_with fail
   refine hb.out.mono ?_
   rintro e w' ⟨rfl,rfl⟩
   go_wp2_with fail
   refine hh.out.mono ?_
   rintro e w' ⟨rfl,rfl⟩
   go_wp2_with fail
   refine hf.out.mono ?_
   rintro e w' ⟨rfl,rfl⟩
   go_wp2_with fail
   go_ret
   exact ⟨rfl,rfl⟩
 ·obtain rfl:E=16:=by have:=HE.out;rw[if_pos rfl] at this;exact this
  go_enter Tryz.func37,Tryz.ntmps37
  go_wp2_with fail
  refine hb.out.mono ?_
  rintro e w' ⟨rfl,rfl⟩
  go_wp2_with fail
  refine hh.out.mono ?_
  rintro e w' ⟨rfl,rfl⟩
  go_wp2_with fail
  go_ret
  exact ⟨rfl,rfl⟩
theorem createE_ok {m:Mt} {id:Nat} (h:m.createE id=0):hasD m.dv id=false∧m.dv.length<64∧32≤m.S.bl.free:=by
 unfold Mt.createE at h
 split at h
 ·cases h
 ·split at h
  ·cases h
  ·split at h
   ·cases h
   ·rename_i a b c
    exact ⟨by simpa using a,by omega,by omega⟩
theorem rcreate27_ok (W:World) (F:Nat→Prop) (M:Nat) (P:SP) (m:Mt) (h:MtIn W F M P m) (id:Nat) (hid:id≤65535) (hE:m.createE id=0) {b:Nat} (hp:m.S.bl.pick=some b) (hb2:b<1048576) (htm:m.time<1048576) {t:Nat} {S':St} {old:Nat} {had:Bool} (hi:InsC P m.ws (m.newS b).S false m.tree id (Dv.mk id b m.time 0).val t S' old had) (hl64:(insF m.dv ⟨id,b,m.time,0⟩).length≤64) :
  Calls Tryz.prog 37 #[.pointer (some ⟨M,0,none⟩),.int .i64 (id:Int)] W fun e w'=>e=.returned (.int .i64 0)∧MtR W w' F M P ((m.newS b).setD ⟨id,b,m.time,0⟩ t S'):=by
 obtain ⟨h1,h2,h3⟩:=createE_ok hE
 have hb:=Hi (rbadid_any id W hid)
 have hh:=rhas_any h id
 rw[h1] at hh
 have HH:=Hi hh
 have hf:=Hi (rfreemeta_any h)
 obtain ⟨Ad,cd,Ao,co,Ap,cp,c1,-⟩:=h.cells
 have x11:=c1.cell 11
 have x10:=c1.cell 10
 have hem:=Hi (rempty26_any W F P m.S m.ws h.st b hp)
 have d1:¬(64:Int)≤(m.dv.length:Int):=by omega
 have d2:¬((m.S.bl.free:Nat):Int)<32:=by omega
 have H:=Hi h
 have HI:=Hi hi
 clear hh hi c1 hE h1 h2 h3
 go_enter Tryz.func37,Tryz.ntmps37
 go_wp2_with fail
 refine hb.out.mono ?_
 rintro e w' ⟨rfl,rfl⟩
 go_wp2_with fail
 refine HH.out.mono ?_
 rintro e w' ⟨rfl,rfl⟩
 go_wp2_with fail
 refine hf.out.mono ?_
 rintro e w' ⟨rfl,rfl⟩
 go_wp2_with fail
 refine hem.out.mono ?_
 rintro e w1 ⟨rfl,hs1,hf1⟩
 have H1:=(H.out.store hf1 hs1 (fun j hj _=>hj) H.out.nM rfl)
 obtain ⟨_,_,_,_,_,_,c1,-⟩:=H1.cells
 have y2:=c1.cell 2
 have HS:=Hi (rset27 w1 F M P (m.newS b) H1 ⟨id,b,m.time,0⟩ hid hb2 htm (by show 0<16777216;omega) HI.out hl64)
 have HF1:=Hi hf1
 clear hs1 hf1 H1 c1 hem
 go_wp2_with fail
 refine HS.out.mono ?_
 rintro e w2 ⟨rfl,hr⟩
 go_wp2_with fail
 go_ret
 refine ⟨rfl,?_⟩
 have hsz:=HF1.out.size
 refine MtR.step (HF1.out.mono (fun j _ q=>.inl q)) ⟨hr.si.wide (fun j hj _=>hj.imp .inl (fun q=>q)) (fun j hj=>(hr.si.st.inF j hj).imp .inl (fun q=>q)) (fun q=>?_),hr.fr⟩
 rcases q with (q|q)|q
 ·exact H.out.nM q
 ·have:=H.out.lt;omega
 ·have:=H.out.lt;omega
end
section
open Go.RowKit
attribute [local go_sem] Oper.semAt_some
def dv0:Dv:=⟨0,0,0,0⟩
def dvAt (l:List Dv) (id:Nat):Dv:=l[(fnd l id).getD 0]?.getD dv0
def Mt.snapE (m:Mt) (id org:Nat):Int:=if hasD m.dv id=true then 16 else if hasD m.dv org=false then 25 else if 64≤m.dv.length∨1048575≤m.time then 4 else if m.S.bl.free<32 then 26 else 0
def Mt.incS (m:Mt) (r:Nat):Mt:={ m with S:={ m.S with bl:=m.S.bl.inc r },time:=m.time+1 }
theorem snapE_ok {m:Mt} {id org:Nat} (h:m.snapE id org=0):hasD m.dv id=false∧hasD m.dv org=true∧m.dv.length<64∧m.time<1048575∧32≤m.S.bl.free:=by
 unfold Mt.snapE at h
 split at h
 ·cases h
 ·split at h
  ·cases h
  ·split at h
   ·cases h
   ·split at h
    ·cases h
    ·rename_i a b c d
     exact ⟨by simpa using a,by simpa using b,by omega,by omega,by omega⟩
theorem hasD_at {l:List Dv} {id:Nat} (h:hasD l id=true):(fnd l id).getD 0<l.length∧(dvAt l id).id=id:=by
 unfold hasD at h
 obtain ⟨k,hk⟩:=Option.isSome_iff_exists.1 h
 have:=fnd_at hk
 unfold dvAt
 rw[hk]
 exact this
theorem rsnap27_no (W:World) (F:Nat→Prop) (M:Nat) (P:SP) (m:Mt) (h:MtIn W F M P m) (id org:Nat) (hid:id≤65535) (hor:org≤65535) (htm:m.time≤1048575) (hE:m.snapE id org≠0) :
  Calls Tryz.prog 38 #[.pointer (some ⟨M,0,none⟩),.int .i64 (id:Int),.int .i64 (org:Int)] W fun e w'=>e=.returned (.int .i64 (m.snapE id org))∧W=w':=by
 have hb:=Hi (rbadid_any id W hid)
 have hb2:=Hi (rbadid_any org W hor)
 have hh:=Hi (rhas_any h id)
 have hf:=Hi (rfreemeta_any h)
 obtain ⟨Ad,cd,Ao,co,Ap,cp,c1,r1,-⟩:=h.cells
 have hfi:=Hi (rfind27_any Ad m.dv.length cd m.dv org W rfl r1.reads (by have:=h.dl;omega))
 have x11:=c1.cell 11
 have x2:=c1.cell 2
 have HE:Hid (m.snapE id org=if hasD m.dv id=true then 16 else if hasD m.dv org=false then 25 else if 64≤m.dv.length∨1048575≤m.time then 4 else if m.S.bl.free<32 then 26 else 0):=rfl
 obtain ⟨hv,hhv⟩ :∃q,hasD m.dv id=q:=⟨_,rfl⟩
 obtain ⟨ho,hho⟩ :∃q,hasD m.dv org=q:=⟨_,rfl⟩
 obtain ⟨n,hn⟩ :∃q,m.dv.length=q:=⟨_,rfl⟩
 obtain ⟨fr,hfr⟩ :∃q,m.S.bl.free=q:=⟨_,rfl⟩
 obtain ⟨tm,htme⟩ :∃q,m.time=q:=⟨_,rfl⟩
 obtain ⟨E,hEE⟩ :∃q,m.snapE id org=q:=⟨_,rfl⟩
 obtain ⟨kk,hkk⟩ :∃q,(fnd m.dv org).getD 0=q:=⟨_,rfl⟩
 rw[hhv] at hh HE
 rw[hho,hkk,hn] at hfi
 rw[hho,hn,hfr,htme] at HE
 rw[hn] at x11
 rw[htme] at x2 htm
 rw[hfr] at hf
 rw[hEE] at HE hE ⊢
 clear c1 hhv hho hn hfr hEE htme hkk h r1
 cases hv
 ·cases ho
  ·obtain rfl:E=25:=by have:=HE.out;rw[if_neg (by simp),if_pos rfl] at this;exact this
   go_enter Tryz.func38,Tryz.ntmps38
   go_wp2_with fail
   refine hfi.out.mono ?_
   rintro e w' ⟨rfl,rfl⟩
   go_wp2_with fail
   refine hb.out.mono ?_
   rintro e w' ⟨rfl,rfl⟩
   go_wp2_with fail
   refine hb2.out.mono ?_
   rintro e w' ⟨rfl,rfl⟩
   go_wp2_with fail
   refine hh.out.mono ?_
   rintro e w' ⟨rfl,rfl⟩
   go_wp2_with fail
   go_ret
   exact ⟨rfl,rfl⟩
  ·by_cases h1:64≤n
   ·obtain rfl:E=4:=by have:=HE.out;rw[if_neg (by simp),if_neg (by simp),if_pos (.inl h1)] at this;exact this
    have d1:(64:Int)≤(n:Int):=by omega
    go_enter Tryz.func38,Tryz.ntmps38
    go_wp2_with fail
    refine hfi.out.mono ?_
    rintro e w' ⟨rfl,rfl⟩
    go_wp2_with fail
    refine hb.out.mono ?_
    rintro e w' ⟨rfl,rfl⟩
    go_wp2_with fail
    refine hb2.out.mono ?_
    rintro e w' ⟨rfl,rfl⟩
    go_wp2_with fail
    refine hh.out.mono ?_
    rintro e w' ⟨rfl,rfl⟩
    go_wp2_with fail
    go_ret
    exact ⟨rfl,rfl⟩
   ·have d1:¬(64:Int)≤(n:Int):=by omega
    by_cases h2:1048575≤tm
    ·obtain rfl:E=4:=by have:=HE.out;rw[if_neg (by simp),if_neg (by simp),if_pos (.inr h2)] at this;exact this
     have d2:(1048575:Int)≤(tm:Int):=by omega
     go_enter Tryz.func38,Tryz.ntmps38
     go_wp2_with fail
     refine hfi.out.mono ?_
     rintro e w' ⟨rfl,rfl⟩
     go_wp2_with fail
     refine hb.out.mono ?_
     rintro e w' ⟨rfl,rfl⟩
     go_wp2_with fail
     refine hb2.out.mono ?_
     rintro e w' ⟨rfl,rfl⟩
     go_wp2_with fail
     refine hh.out.mono ?_
     rintro e w' ⟨rfl,rfl⟩
     go_wp2_with fail
     go_ret
     exact ⟨rfl,rfl⟩
    ·have h3:fr<32:=by
      have:=HE.out
      rw[if_neg (by simp),if_neg (by simp),if_neg (by omega)] at this
      by_cases q:fr<32
      ·exact q
      ·rw[if_neg q] at this
       exact absurd this hE
     obtain rfl:E=26:=by have:=HE.out;rw[if_neg (by simp),if_neg (by simp),if_neg (by omega),if_pos h3] at this;exact this
     have d2:decide ((1048575:Int)≤(tm:Int))=false:=by rw[decide_eq_false_iff_not];omega
     have d3:(fr:Int)<32:=by omega
     clear h2 htm h3 h1 HE
     go_enter Tryz.func38,Tryz.ntmps38
     go_wp2_with fail
     refine hfi.out.mono ?_
     rintro e w' ⟨rfl,rfl⟩
     go_wp2_with fail
     refine hb.out.mono ?_
     rintro e w' ⟨rfl,rfl⟩
     go_wp2_with fail
     refine hb2.out.mono ?_
     rintro e w' ⟨rfl,rfl⟩
     go_wp2_with fail
     refine hh.out.mono ?_
     rintro e w' ⟨rfl,rfl⟩
     go_wp2_with fail
     refine hf.out.mono ?_
     rintro e w' ⟨rfl,rfl⟩
     go_wp2_with fail
     go_ret
     exact ⟨rfl,rfl⟩
 ·obtain rfl:E=16:=by have:=HE.out;rw[if_pos rfl] at this;exact this
  go_enter Tryz.func38,Tryz.ntmps38
  go_wp2_with fail
  refine hfi.out.mono ?_
  rintro e w' ⟨rfl,rfl⟩
  go_wp2_with fail
  refine hb.out.mono ?_
  rintro e w' ⟨rfl,rfl⟩
  go_wp2_with fail
  refine hb2.out.mono ?_
  rintro e w' ⟨rfl,rfl⟩
  go_wp2_with fail
  refine hh.out.mono ?_
  rintro e w' ⟨rfl,rfl⟩
  go_wp2_with fail
  go_ret
  exact ⟨rfl,rfl⟩
theorem rsnap27_ok (W:World) (F:Nat→Prop) (M:Nat) (P:SP) (m:Mt) (h:MtIn W F M P m) (id org:Nat) (hid:id≤65535) (hor:org≤65535) (hE:m.snapE id org=0) (hinc:m.S.bl.incE (dvAt m.dv org).rt=0) (hrt:(dvAt m.dv org).rt<1048576) (hmp:(dvAt m.dv org).mp<16777216) (htd:(dvAt m.dv org).tm<1048576) {t:Nat} {S':St} {old:Nat} {had:Bool} (hi:InsC P m.ws (m.incS (dvAt m.dv org).rt).S false m.tree id (Dv.mk id (dvAt m.dv org).rt (m.time+1) (dvAt m.dv org).mp).val t S' old had) (hl64:(insF m.dv ⟨id,(dvAt m.dv org).rt,m.time+1,(dvAt m.dv org).mp⟩).length≤64) :
  Calls Tryz.prog 38 #[.pointer (some ⟨M,0,none⟩),.int .i64 (id:Int),.int .i64 (org:Int)] W fun e w'=>e=.returned (.int .i64 0)∧MtR W w' F M P ((m.incS (dvAt m.dv org).rt).setD ⟨id,(dvAt m.dv org).rt,m.time+1,(dvAt m.dv org).mp⟩ t S'):=by
 obtain ⟨h1,h2,h3,h4,h5⟩:=snapE_ok hE
 obtain ⟨hkl,hdid⟩:=hasD_at h2
 have hb:=Hi (rbadid_any id W hid)
 have hb2:=Hi (rbadid_any org W hor)
 have hh:=rhas_any h id
 rw[h1] at hh
 have HH:=Hi hh
 have hf:=Hi (rfreemeta_any h)
 obtain ⟨Ad,cd,Ao,co,Ap,cp,c1,r1,-⟩:=h.cells
 have hfi:=rfind27_any Ad m.dv.length cd m.dv org W rfl r1.reads (by have:=h.dl;omega)
 rw[h2] at hfi
 have x11:=c1.cell 11
 have x2:=c1.cell 2
 have x8:=c1.cell 8
 have d1:¬(64:Int)≤(m.dv.length:Int):=by omega
 have d2:¬((m.S.bl.free:Nat):Int)<32:=by omega
 have d3:decide ((1048575:Int)≤(m.time:Int))=false:=by rw[decide_eq_false_iff_not];omega
 have htm1:=Hi h4
 obtain ⟨b,off,rfl,hbl,z0,z1,z2,z3⟩:=dv_reads r1.reads hkl
 have hO:dvAt m.dv org=m.dv[(fnd m.dv org).getD 0]:=by unfold dvAt;rw[List.getElem?_eq_getElem hkl];rfl
 rw[←hO] at z0 z1 z2 z3
 obtain ⟨o,ho⟩ :∃o,dvAt m.dv org=o:=⟨_,rfl⟩
 rw[ho] at z0 z1 z2 z3 hinc hrt hmp htd hi hl64 ⊢
 obtain ⟨oid,ort,otm,omp⟩:=o
 dsimp only at z0 z1 z2 z3 hinc hrt hmp htd hi hl64 ⊢
 obtain ⟨kk,hkk⟩ :∃q,(fnd m.dv org).getD 0=q:=⟨_,rfl⟩
 rw[hkk] at hfi hkl z0 z1 z2 z3
 have HFI:=Hi hfi
 have H:=Hi h
 have HI:=Hi hi
 have d4:(kk:Int)<(m.dv.length:Int):=by omega
 have HC1:=Hi c1
 have hMl:=h.lt
 have B1:Below W.heap.size W (W.alloc (.cells #[.int .i64 (oid:Int),.int .i64 (ort:Int),.int .i64 (otm:Int),.int .i64 (omp:Int)] 91)):=(Below.refl _ W).alloc (Nat.le_refl _) _
 have C1:=Cs.new W 91 #[.int .i64 (oid:Int),.int .i64 (ort:Int),.int .i64 (otm:Int),.int .i64 (omp:Int)]
 clear hh hi c1 hE h1 h2 h3 h4 h5 hfi hO ho hkk hdid r1
 go_enter Tryz.func38,Tryz.ntmps38
 go_wp2_with fail
 refine HFI.out.mono ?_
 rintro e w' ⟨rfl,rfl⟩
 go_wp2_with fail
 refine hb.out.mono ?_
 rintro e w' ⟨rfl,rfl⟩
 go_wp2_with fail
 refine hb2.out.mono ?_
 rintro e w' ⟨rfl,rfl⟩
 go_wp2_with fail
 refine HH.out.mono ?_
 rintro e w' ⟨rfl,rfl⟩
 go_wp2_with fail
 refine hf.out.mono ?_
 rintro e w' ⟨rfl,rfl⟩
 go_wp2_with fail
 generalize (W.alloc (.cells #[.int .i64 (oid:Int),.int .i64 (ort:Int),.int .i64 (otm:Int),.int .i64 (omp:Int)] 91))=W1 at *
 obtain ⟨B,hB⟩ :∃q,W.heap.size=q:=⟨_,rfl⟩
 rw[hB] at C1 ⊢
 have hBl:B<W1.heap.size:=C1.lt
 have hMl1:M<W1.heap.size:=Nat.lt_of_lt_of_le hMl B1.size
 have H1:=H.out.keep B1
 have hinc1:=rinc_any (W:=W1.drew) (K:=P.b) (m:=m.S.bl) (H1.st.keep (Below.refl _ W1).drew).mb ort
 rw[hinc,if_pos rfl] at hinc1
 have HINC:=Hi hinc1
 have hMB:¬M=B:=by omega
 have hBP:¬P.has B:=fun q=>by have:=H.out.st.lt B q;omega
 have hMP:=H.out.nP
 have y8:W1.drew.cell? ⟨M,8,none⟩=some (.pointer (some ⟨P.b.p,0,none⟩)):=(B1.cell (p:=⟨M,8,none⟩) hMl).trans x8
 refine wp_region_scr [(true,0),(true,1),(true,2),(true,3),(true,4),(true,5)] [6,7] 6 (by kernel_rfl) (by decide +kernel) (fun w=>w.cell? ⟨M,8,none⟩=some (.pointer (some ⟨P.b.p,0,none⟩))∧w.cell? ⟨B,1,none⟩=some (.int .i64 (ort:Int))) ⟨y8,C1.cell 1⟩ ?_
 simp only[pickS,pickL,List.getElem?_toArray,List.getElem?_cons_zero,List.getElem?_cons_succ]
 iterate 6
  refine ⟨?_,Or.inl ⟨by rfl,fun W' hS'=>?_⟩,fun _ _ _ h=>h,?_⟩
  rotate_left
  ·obtain ⟨y8,y1⟩:=hS'
   go_simp
   with_reducible rfl
  simp only[Act.put,List.setIfInBounds_toArray,List.set_cons_zero,List.set_cons_succ]
 refine wpSeqL_list _ _ _ (by simp) ?_
 simp only[List.map_cons,List.map_nil]
 clear y8 x2 x8 x11 z0 z1 z2 z3 hinc1
 go_wp2_with fail
 refine HINC.out.mono ?_
 rintro e w2 ⟨rfl,hm2,hf2⟩
 have hf2':Fr (· =P.b.gn) W1 w2:=((Fr.refl _ W1).drew).trans hf2
 have hs2:=H1.st.blSet hm2 hf2' (Mp.setN_len _ _ _)
 have H2:=H1.store (hf2'.has has_bn) hs2 (fun j hj _=>hj) H.out.nM rfl
 have C2:=C1.fr hf2' (fun e=>hBP (has_bn _ e))
 have hc2:=H2.cells
 obtain ⟨Ad2,cd2,Ao2,co2,Ap2,cp2,c2,-⟩:=hc2
 have u2:=c2.cell 2
 have v2:=c2.free 2
 have e1:IntKind.i64.wrap ((m.time:Int)+1)=((m.time+1:Nat):Int):=by have:=htm1.out;rw[IntWalk.i64_in _ (by omega)];omega
 have H3:=H2.set_time (m.time+1)
 have hB2:B<w2.heap.size:=C2.lt
 have C3:=C2.fr (fr_set w2 M 2 (.int .i64 ((m.time+1:Nat):Int))) (fun e=>hMB e.symm)
 have F3:Fr (fun j=>P.has j∨j=M) W (w2.setCell ⟨M,2,none⟩ (.int .i64 ((m.time+1:Nat):Int))):=((Fr.of_below B1).trans (hf2'.mono (fun j _ e=>.inl (has_bn _ e)))).set (.inl (.inr rfl)) _
 have H2':=Hi H2
 have eT:((m.time+1:Nat):Int)=(m.time:Int)+1:=rfl
 rw[eT] at H3 C3 F3 e1
 clear hm2 hf2 hf2' hs2 H2 C2 c2 H1
 go_wp2_with fail
 clear u2 v2
 generalize (w2.setCell ⟨M,2,none⟩ (.int .i64 ((m.time:Int)+1)))=w3 at *
 obtain ⟨Ad3,cd3,Ao3,co3,Ap3,cp3,c3,-⟩:=H3.cells
 have u2:w3.cell? ⟨M,2,none⟩=some (.int .i64 ((m.time:Int)+1)):=c3.cell 2
 have hts:=htm1.out
 have HS:=rset27 w3.drew F M P _ (H3.keep (Below.refl _ w3).drew) ⟨id,ort,m.time+1,omp⟩ hid hrt (by show m.time+1<1048576;omega) hmp HI.out hl64
 have hdv:(Dv.mk id ort (m.time+1) omp).v=.agg #[.int .i64 (id:Int),.int .i64 (ort:Int),.int .i64 ((m.time:Int)+1),.int .i64 (omp:Int)]:=rfl
 rw[hdv] at HS
 have HSS:=Hi HS
 have H3':=Hi H3
 have F3':=Hi F3
 clear HS hdv c3 H3 F3 HI
 refine wp_region_scr [(true,0),(true,1),(true,2),(true,3),(true,4),(true,5),(true,6),(true,7),(true,8),(true,9),(true,10)] [11,12] 11 (by kernel_rfl) (by decide +kernel) (fun w=>w.cell? ⟨M,2,none⟩=some (.int .i64 ((m.time:Int)+1))∧w.cell? ⟨B,1,none⟩=some (.int .i64 (ort:Int))∧w.cell? ⟨B,3,none⟩=some (.int .i64 (omp:Int))) ⟨u2,C3.cell 1,C3.cell 3⟩ ?_
 simp only[pickS,pickL,List.getElem?_toArray,List.getElem?_cons_zero,List.getElem?_cons_succ]
 iterate 11
  refine ⟨?_,Or.inl ⟨by rfl,fun W' hS'=>?_⟩,fun _ _ _ h=>h,?_⟩
  rotate_left
  ·obtain ⟨y2,y1,y3⟩:=hS'
   go_simp
   with_reducible rfl
  simp only[Act.put,List.setIfInBounds_toArray,List.set_cons_zero,List.set_cons_succ]
 refine wpSeqL_list _ _ _ (by simp) ?_
 simp only[List.map_cons,List.map_nil]
 go_wp2_with fail
 refine HSS.out.mono ?_
 rintro e w4 ⟨rfl,hr⟩
 go_wp2_with fail
 go_ret
 refine ⟨rfl,?_⟩
 refine MtR.step F3'.out ⟨hr.si.wide (fun j hj _=>?_) (fun j hj=>?_) (fun q=>?_),(Fr.refl _ w3).drew.trans hr.fr⟩
 ·exact hj.imp .inl (fun q=>q)
 ·exact (hr.si.st.inF j hj).imp .inl (fun q=>q)
 ·have hsz:=F3'.out.size
  rcases q with (q|q)|q
  ·exact H.out.nM q
  ·omega
  ·omega
end
section
open Go.RowKit
attribute [local go_sem] Oper.semAt_some
def Mt.took (m:Mt) (d:Nat):Mt:={ m with S:={ m.S with da:=m.S.da.setN d 1 },pe:=m.pe++ [d],done:=true }
theorem ralloc27_none (W:World) (F:Nat→Prop) (M:Nat) (P:SP) (m:Mt) (h:MtIn W F M P m) (hp:m.S.da.pick=none) :
  Calls Tryz.prog 40 #[.pointer (some ⟨M,0,none⟩)] W fun e w'=>e=.returned (.tuple #[.int .i64 0,.int .i64 14])∧MtR W w' F M P m:=by
 have ha:=ralloc_any h.st.md
 have e1:m.S.da.pickN=0:=by unfold Mp.pickN;rw[hp];rfl
 have e2:m.S.da.pickE=14:=by unfold Mp.pickE;rw[hp];rfl
 have e3:m.S.da.took=m.S.da:=by unfold Mp.took;rw[hp]
 rw[e1,e2,e3] at ha
 have HA:=Hi ha
 obtain ⟨Ad,cd,Ao,co,Ap,cp,c1,-⟩:=h.cells
 have x9:=c1.cell 9
 have H:=Hi h
 clear ha c1 e1 e2 e3 hp
 go_enter Tryz.func40,Tryz.ntmps40
 go_wp2_with fail
 refine HA.out.mono ?_
 rintro e w1 ⟨rfl,hm1,hf1⟩
 have hs1:=H.out.st.daSet hm1 hf1
 have H1:=Hi (H.out.store (hf1.has has_dn) hs1 (fun j hj _=>hj) H.out.nM rfl)
 have HF:=Hi hf1
 clear hm1 hf1 hs1
 go_wp2_with fail
 go_ret2
 exact ⟨rfl,MtR.step (HF.out.mono (fun j _ e=>.inl (has_dn _ e))) (MtR.refl (H1.out.wide (fun j hj _=>.inl hj) (fun j hj=>.inl (H1.out.st.inF j hj)) (fun q=>q.elim H.out.nM (fun e=>by have:=H.out.lt;omega))))⟩
theorem ralloc27_some (W:World) (F:Nat→Prop) (M:Nat) (P:SP) (m:Mt) (h:MtIn W F M P m) {d:Nat} (hp:m.S.da.pick=some d) (hpl:m.pe.length<16384) :
  Calls Tryz.prog 40 #[.pointer (some ⟨M,0,none⟩)] W fun e w'=>e=.returned (.tuple #[.int .i64 (d:Int),.int .i64 0])∧MtR W w' F M P (m.took d):=by
 obtain ⟨i0,hi0,hz0,hz1,hz2⟩:=info_parts int_info
 have ha:=ralloc_any h.st.md
 have e1:m.S.da.pickN=d:=by unfold Mp.pickN;rw[hp];rfl
 have e2:m.S.da.pickE=0:=by unfold Mp.pickE;rw[hp];rfl
 have e3:m.S.da.took=m.S.da.setN d 1:=by unfold Mp.took;rw[hp]
 rw[e1,e2,e3] at ha
 have HA:=Hi ha
 have hd:=(Mp.pick_some hp).1
 have hdl:=h.st.md.lt
 obtain ⟨Ad,cd,Ao,co,Ap,cp,c1,-⟩:=h.cells
 have x9:=c1.cell 9
 have H:=Hi h
 clear ha c1 e1 e2 e3 hp
 go_enter Tryz.func40,Tryz.ntmps40
 go_wp2_with fail
 refine HA.out.mono ?_
 rintro e w1 ⟨rfl,hm1,hf1⟩
 have hs1:=H.out.st.daSet hm1 hf1
 have h1:=(H.out.store (hf1.has has_dn) hs1 (fun j hj _=>hj) H.out.nM rfl)
 have HF:=Hi hf1
 obtain ⟨Ad,cd,Ao,co,Ap,cp,c1,-,-,r3⟩:=h1.cells
 have x13:=c1.cell 13
 have HR3:=Hi r3.reads
 have H1:=Hi h1
 have hMl1:=h1.lt
 obtain ⟨n,hn⟩ :∃n,m.pe.length=n:=⟨_,rfl⟩
 have HN:=Hi hn
 have HNV:=Hi (nv_length m.pe)
 rw[hn] at HNV hpl
 dsimp only at x13
 rw[hn] at x13
 clear hm1 hf1 hs1 c1 r3 h1 hn
 have e4:∀w,Below w1.heap.size w1 w→w.frozen? ⟨M,14,none⟩=false∧w.frozen? ⟨M,13,none⟩=false∧(∃v,w.cell? ⟨M,14,none⟩=some v)∧(∃v,w.cell? ⟨M,13,none⟩=some v):=fun w hw=>by
  obtain ⟨_,_,_,_,_,_,q,_⟩:=(H1.out.keep hw).cells
  exact ⟨q.free 14,q.free 13,⟨_,q.cell 14⟩,⟨_,q.cell 13⟩⟩
 have E4:=Hi e4
 clear e4
 go_wp2_with (first
  |(at_builtin;refine wpList_append_reads _ (by rfl) _ _ _ (by rfl) w1.heap.size 3 i0 _ 1 8 Tryz.underlying22 hi0 hz0 hz1 hz2 (by rfl) (by omega) (.slice none 0 0) 0 [] (by rfl) (World.ownsRow_nil _ _ _ _) Ap n cp (nv m.pe) (by rfl) (by rw[HNV.out,Nat.mul_one]) HR3.out (nv_one _) (by simp only[maxLen];omega) (by omega) (Nat.le_refl _) ?_;intro v2 w2 hown2 hg2 hat2;have hb2:Below w1.heap.size w1 w2:=(Below.refl _ w1).grown hg2 (Nat.le_refl _) (by intro k hk;simp[Value.ownBlock] at hk);rw[Nat.zero_add,List.nil_append] at hown2;obtain ⟨A2,c2,hv2⟩:=own_form hown2;subst hv2;have HO2:=Hi hown2;have HB2:=Hi hb2;clear hown2 hg2 hat2 hb2)
  |(at_builtin;refine wpList_append_reads _ (by rfl) _ _ _ (by rfl) w1.heap.size 3 i0 _ 1 8 Tryz.underlying22 hi0 hz0 hz1 hz2 (by rfl) (by omega) (.slice A2 n c2) n (nv m.pe) (by rfl) (own_keepU' HO2.out ((Below.refl _ w2).alloc (Nat.le_refl _) _)) (some ⟨w2.heap.size,0,none⟩) 1 1 [.int .i64 (d:Int)] (by rfl) (by rfl) (Reads.new _ _ _) (by simp[Value.oneCell']) (by simp only[maxLen];omega) (by omega) (Nat.le_trans HB2.out.size ((Below.refl _ w2).alloc (Nat.le_refl _) _).size) ?_;intro v3 w3 hown3 hg3 hat3;have hb3:Below w1.heap.size w1 w3:=(HB2.out.trans (((Below.refl _ w2).alloc (Nat.le_refl _) _).mono HB2.out.size)).grown hg3 (Nat.le_trans HB2.out.size ((Below.refl _ w2).alloc (Nat.le_refl _) _).size) (own_base HO2.out);obtain ⟨A3,c3,hv3⟩:=own_form hown3;subst hv3;have HO3:=Hi hown3;have HB3:=Hi hb3;clear hown3 hg3 hat3 hb3;obtain ⟨f14,f13,⟨v14,q14⟩,⟨v13,q13⟩⟩:=E4.out _ HB3.out))
 go_ret2
 have e5:nv m.pe++ [.int .i64 (d:Int)]=nv (m.pe++ [d]):=by unfold nv;rw[List.map_append];rfl
 have hrow:=HO3.out
 rw[e5] at hrow
 have hln:(m.pe++ [d]).length=n+1:=by rw[List.length_append,HN.out];rfl
 rw[←hln] at hrow ⊢
 have hsz3:=HB3.out.size
 have hsz1:=HF.out.size
 have hlt:=H.out.lt
 have hPl:=H.out.st.lt
 have H3:=((H1.out.keep HB3.out).wide (F':=FN F W) (fun j hj _=>.inl hj) (fun j hj=>.inl (H.out.st.inF j hj)) (fun q=>q.elim H.out.nM (fun e=>by omega)))
 have H4:=(H3.set_done true).set_pe (L:=m.pe++ [d]) (v:=.slice A3 (m.pe++ [d]).length c3) (RowO.fr (RowO.own hrow (fun j h1 h2=>⟨.inr (by omega),fun q=>by have:=hPl _ q;omega⟩)) (nv_ne _) (fr_set _ M 14 (.bool true)) (fun j hj e=>by
  rcases hj.1 with q|q
  ·exact H.out.nM (by rw[←e];exact q)
  ·omega)) (by rw[hln];omega)
 exact ⟨rfl,H4,((((HF.out.mono (fun j _ e=>(.inl (has_dn _ e):P.has j∨j=M))).trans (Fr.of_below HB3.out)).set (.inl (.inr rfl)) _).set (.inl (.inr rfl)) _)⟩
section
variable {W:World} {F:Nat→Prop} {M:Nat} {P:SP} {m:Mt}
theorem nat_in {l:List Nat} {k d:Nat} (hk:k<l.length) (h:l[k]?.getD 0=d):d∈l:=by
 rw[List.getElem?_eq_getElem hk,Option.getD_some] at h
 rw[←h]
 exact List.getElem_mem hk
theorem nat_out {l:List Nat} {d:Nat} (h:∀k,k<l.length→l[k]?.getD 0≠d):d∉l:=by
 intro hd
 obtain ⟨k,hk,e⟩:=List.getElem_of_mem hd
 exact h k hk (by rw[List.getElem?_eq_getElem hk];exact e)
theorem rispending_any (h:MtIn W F M P m) (d:Nat) :
  Calls Tryz.prog 90 #[.pointer (some ⟨M,0,none⟩),.int .i64 (d:Int)] W fun e w'=>e=.returned (.bool (decide (d∈m.pe)))∧W=w':=by
 obtain ⟨Ad,cd,Ao,co,Ap,cp,c1,-,-,r3⟩:=h.cells
 have x13:=c1.cell 13
 have hpl:=h.pl
 have HC:Hid (∀k,k<m.pe.length→∃b off,Ap=some ⟨b,off,none⟩∧W.cell? ⟨b,off+k,none⟩=some (.int .i64 (((m.pe[k]?.getD 0:Nat)):Int))):=by
  intro k hk
  obtain ⟨b,off,e,hb,hc⟩:=r3.reads (by rw[nv_length];omega)
  exact ⟨b,off,e,hc _ _ (nv_at m.pe k hk)⟩
 obtain ⟨l,hl⟩ :∃l,m.pe=l:=⟨_,rfl⟩
 rw[hl] at x13 HC hpl ⊢
 obtain ⟨n,hn⟩ :∃n,l.length=n:=⟨_,rfl⟩
 rw[hn] at x13 HC hpl
 have HN:=Hi hn
 clear c1 r3 h hl hn
 go_enter Tryz.func90,Tryz.ntmps90
 go_wp2_with fail
 go_loop [5] (fun i=>∃k:Nat,k≤n∧i=.int .i64 k∧Hid (∀j,j<k→l[j]?.getD 0≠d)) (fun i=>n - (intOf i).toNat)
 case atStart=>exact ⟨0,Nat.zero_le _,rfl,fun u hu=>by omega⟩
 case round=>
  obtain ⟨k,hk,rfl,hf⟩:=hrel
  by_cases hlt:k<n
  ·obtain ⟨b,off,rfl,hc⟩:=HC.out k hlt
   obtain ⟨x,hx⟩ :∃x,l[k]?.getD 0=x:=⟨_,rfl⟩
   rw[hx] at hc
   have HX:=Hi hx
   clear hx
   by_cases e:x=d
   ·subst e
    have HR:Hid (decide (x∈l)=true):=by
     show _=_
     rw[decide_eq_true_eq]
     exact nat_in (by rw[HN.out];exact hlt) HX.out
    go_wp2_with fail
    go_ret
    rw[HR.out]
    exact ⟨rfl,rfl⟩
   ·have d1:((x:Int) == (d:Int))=false:=by simp;omega
    have d2:¬(x:Int)=(d:Int):=by omega
    go_wp2_with fail
    go_round
    case rel=>exact ⟨k+1,by omega,by go_num,fun j hj=>by
     rcases Nat.lt_or_ge j k with q|q
     ·exact hf.out j q
     ·obtain rfl:j=k:=by omega
      rw[HX.out]
      exact e⟩
    case measure=>simp[intOf];omega
  ·obtain rfl:k=n:=by omega
   have HR:Hid (decide (d∈l)=false):=by
    show _=_
    rw[decide_eq_false_iff_not]
    exact nat_out (by rw[HN.out];exact hf.out)
   go_wp2_with fail
   go_ret
   rw[HR.out]
   exact ⟨rfl,rfl⟩
end
end
end Go.Proofs.YtplhdjdkobddnaaGreat
