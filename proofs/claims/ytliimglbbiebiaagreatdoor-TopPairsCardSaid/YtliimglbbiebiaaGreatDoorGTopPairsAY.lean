/- A part of the proof: XStore, House, OpenSt, Pairs1. -/
import Derived.Test.YtliimglbbiebiaaGreatDoorGTopPairsAT
import Derived.Test.YtliimglbbiebiaaGreatDoorGTopPairsAX
import Derived.Test.YtliimglbbiebiaaGreatDoorGTopPairsAA
import Derived.Test.YtliimglbbiebiaaGreatDoorRows
import Derived.ProofKit
import Derived.OpenShut
import Derived.Deep.Slices
import Derived.Deep.Fields
import Derived.ChangeSame
import Derived.Deep.Strs
import Derived.SizedLaws
set_option maxRecDepth 100000
set_option maxHeartbeats 6400000
section
namespace Go.Proofs.YtliimglbbiebiaaGreatDoor
open Go.RowKit Go.Maps
theorem xstore_any {w0 W:World} {base:Nat} {S:Sx} {Q:Qs} {M:List Msg} {n t f:Int} {i:Int} {xs v x:Nat} {u:Value} {l:List Int} (V:SV w0 base W S Q M n t f i xs v x u l) (hn:n≤5000) (hQ:∀ i ∈ Q.ids,(Q.l i).length≤90000000)
 (c:Cmd) (hf0:0≤c.fl) (s:List Rg) (hv:Rd rgE W (.slice c.sA c.sn c.sc) s) (hwf:∀ r ∈ s,r.wf) (hs:s.length≤100000) {bs OB:Nat} {vo:Value} {lo:List Rsp} (ho:OutI bs OB vo lo W) (hlo:lo.length≤1000) (hbb:base≤bs) (hbw:w0.heap.size≤bs) (hbs:bs≤W.heap.size) (hOB:base≤OB) (hOw:w0.heap.size≤OB) :
 Calls Tryz.prog 72 #[.pointer (some ⟨xs,0,none⟩),c.val,addV OB] W fun e W'=>OpR w0 base W W' S Q n f i xs (some (v,x,u,l)) bs OB vo lo e:=by
 have hl:l.length≤5000:=by have:=ascTo_len V.asc V.bd; omega
 have hsn:c.sn=s.length:=by
  obtain ⟨_,_,he,_⟩:=hv
  injection he
 obtain ⟨WA,hWA⟩:∃ WA,WA=((W.alloc (.cells #[.string c.t,.int .i64 c.k,.string c.m,.slice c.sA c.sn c.sc,.int .i64 c.it,.int .i64 c.mo,.bool c.si,.int .u8 c.fl,.slice c.dA c.dn c.dc] 47)).alloc (.cells #[.int .i64 0,.string ⟨#[]⟩] 108)):=⟨_,rfl⟩
 have nA:New W WA:=hWA ▸ ((New.refl W).alloc _).alloc _
 have cA:Blk WA W.heap.size 47 #[.string c.t,.int .i64 c.k,.string c.m,.slice c.sA c.sn c.sc,.int .i64 c.it,.int .i64 c.mo,.bool c.si,.int .u8 c.fl,.slice c.dA c.dn c.dc]:=hWA ▸ (Blk.new _ _ _).alloc _
 have rA:Blk WA (W.heap.size + 1) 108 #[.int .i64 0,.string ⟨#[]⟩]:=hWA ▸ Blk.new1 _ _ _ _
 have VA:=V.new nA
 have hWb:=V.st.hb
 have hW0:=V.st.new.size
 have hib:=V.ib
 have s0:WA.cell? ⟨xs,0,none⟩=some (.pointer (some ⟨S.s,0,none⟩)):=VA.ses.cell 0
 have s1:WA.cell? ⟨xs,1,none⟩=some (.int .i64 i):=VA.ses.cell 1
 have s2:WA.cell? ⟨xs,2,none⟩=some (.pointer (some ⟨v,0,none⟩)):=VA.ses.cell 2
 have d3:WA.cell? ⟨W.heap.size,3,none⟩=some (.slice c.sA c.sn c.sc):=cA.cell 3
 have d4:WA.cell? ⟨W.heap.size,5,none⟩=some (.int .i64 c.mo):=cA.cell 5
 have d5:WA.cell? ⟨W.heap.size,6,none⟩=some (.bool c.si):=cA.cell 6
 have d6:WA.cell? ⟨W.heap.size,7,none⟩=some (.int .u8 c.fl):=cA.cell 7
 have hfar:∀ k,(k=v∨k=x∨u.ownBlock=some k)→¬ S.foot Q k:=by
  rintro k (rfl | rfl | hk)
  · exact VA.fv
  · exact VA.nx
  · exact VA.nu k hk
 have HG:=Lib.hid (fput_any (VA.st.more (New.refl WA).drew) (Blk.drew VA.vw) (VA.ix.new (New.refl WA).drew) (by omega) VA.bd hfar (fun j hj=>by have:=hQ j hj; omega) c.sA c.sc s (by rw [← hsn]; exact (hv.new nA).new (New.refl WA).drew) hwf hs i c.mo c.fl c.si hf0)
 rw [← hsn] at HG
 have H:=Lib.hid (And.intro VA (And.intro nA (And.intro cA (And.intro rA (And.intro (ho.new nA) hQ)))))
 clear V VA nA cA rA hfar ho hQ hv hwf hsn
 go_enter Tryz.func72,Tryz.ntmps72
 go_wp2_with fail
 rw [← hWA]
 clear hWA
 go_region_held3 (fun W'=>W'.cell? ⟨xs,0,none⟩=some (.pointer (some ⟨S.s,0,none⟩))∧W'.cell? ⟨xs,1,none⟩=some (.int .i64 i)∧W'.cell? ⟨xs,2,none⟩=some (.pointer (some ⟨v,0,none⟩))∧W'.cell? ⟨W.heap.size,3,none⟩=some (.slice c.sA c.sn c.sc)∧W'.cell? ⟨W.heap.size,5,none⟩=some (.int .i64 c.mo)∧W'.cell? ⟨W.heap.size,6,none⟩=some (.bool c.si)∧W'.cell? ⟨W.heap.size,7,none⟩=some (.int .u8 c.fl)) (first | go_keep | (refine ⟨?_,?_,?_,?_,?_,?_,?_⟩ <;> assumption)) ((first
  | (go_at_call 103
     refine HG.out.mono ?_
     rintro e w2 ⟨vo2,lo2,code,rfl,hown,hp,hlo2,hc,j,Q1,M1,hj,hg,hvw2,hix2⟩
     have VD:SV w0 base WA.drew S Q M n t f i xs v x u l:=H.out.1.new (Fr.drew (New.refl WA))
     have V2:=VD.store hg.st rfl hg.fr hg.gr (Int.le_refl _) (by rw [hg.ids]; exact VD.hi) (fun e he=>by
      obtain ⟨L,h1,_,h3⟩:=hg.ev i
      rw [h1] at he
      rcases List.mem_append.1 he with he | he
      · exact VD.ev e he
      · obtain ⟨k1,k2,k3⟩:=h3 e he
        exact ⟨by omega,k2,by omega⟩)
     have c2:=hg.fr.blk (Blk.drew H.out.2.2.1) (VD.st.not_foot (Blk.drew H.out.2.2.1) (by omega) (by decide) (by decide) (by decide) (by decide) (by decide) (by decide))
     have r2:=hg.fr.blk (Blk.drew H.out.2.2.2.1) (VD.st.not_foot (Blk.drew H.out.2.2.2.1) (by omega) (by decide) (by decide) (by decide) (by decide) (by decide) (by decide))
     have p0:w2.cell? ⟨xs,0,none⟩=some (.pointer (some ⟨S.s,0,none⟩)):=V2.ses.cell 0
     have p1:w2.cell? ⟨xs,1,none⟩=some (.int .i64 i):=V2.ses.cell 1
     have p2:w2.cell? ⟨xs,2,none⟩=some (.pointer (some ⟨v,0,none⟩)):=V2.ses.cell 2
     have p3:w2.cell? ⟨W.heap.size,3,none⟩=some (.slice c.sA c.sn c.sc):=c2.cell 3
     have p4:w2.cell? ⟨W.heap.size,5,none⟩=some (.int .i64 c.mo):=c2.cell 5
     have p5:w2.cell? ⟨W.heap.size,6,none⟩=some (.bool c.si):=c2.cell 6
     have p6:w2.cell? ⟨W.heap.size,7,none⟩=some (.int .u8 c.fl):=c2.cell 7
     have H2:=Lib.hid (And.intro V2 (And.intro r2 (And.intro hown (And.intro hp (And.intro hlo2 (And.intro hc (And.intro hj hg)))))))
     clear VD V2 c2 r2 hown hp hlo2 hc hj hg hvw2 hix2)
  | fail))
 have hgg:=H2.out.2.2.2.2.2.2.2
 have hsd:=hgg.fr.size
 have e2:WA.drew.heap.size=WA.heap.size:=rfl
 have hsA:=H.out.2.1.size
 have hnf:∀ k ty cs,Blk WA.drew k ty cs→base≤k→(ty=50∨ty=53∨ty=5)→¬ S.foot Q k:=by
  rintro k ty cs hb hk (rfl | rfl | rfl) <;> exact (H.out.1.st.more (Fr.drew (New.refl WA))).not_foot hb hk (by decide) (by decide) (by decide) (by decide) (by decide) (by decide)
 have ho2:OutI bs OB vo lo w2:=by
  have hoA:=H.out.2.2.2.2.1
  exact (hoA.new (Fr.drew (New.refl WA))).fr hgg.fr fun k ty cs hb hk ht=>hnf k ty cs hb (by omega) ht
 have HO2:=Lib.hid ho2
 have hlen2:=H2.out.2.2.2.2.1
 have hev2:(Q1.l i).length≤91000000:=by
  obtain ⟨L,h1,h2,_⟩:=hgg.ev i
  have:=H.out.2.2.2.2.2 i H.out.1.hi
  have:=H2.out.2.2.2.2.2.2.1
  rw [h1,List.length_append]
  omega
 clear hnf ho2 hgg
 by_cases h3:code=3
 · subst h3
   go_wp2_with fail
   refine (messages_bad xs ⟨#[83,84,79,82,69]⟩ (by decide) vo2 OB w2).mono ?_
   rintro e w3 ⟨st,tx,rfl,hst,htx,n3⟩
   have b3:=n3.blk H2.out.2.1
   have c0:w3.cell? ⟨W.heap.size + 1,0,none⟩=some (.int .i64 0):=b3.cell 0
   have c1:w3.cell? ⟨W.heap.size + 1,1,none⟩=some (.string ⟨#[]⟩):=b3.cell 1
   have ff:=b3.froz
   go_wp2
   refine bodyPost_ret (results_cell1 rfl _ _ rfl (loadOut (b3.over2 (.int .i64 st) (.string tx)))) rfl ?_
   have one:=One.over2 w3 (W.heap.size + 1) (.int .i64 st) (.string tx)
   have V6:=(H2.out.1.new n3).apart one (fun k hk _=>by
    have e:k=W.heap.size + 1:=hk
    rw [e]
    exact ⟨by omega,by omega,_,.inr (.inr b3)⟩)
   have ho6:=(HO2.out.new n3).one one b3 (by decide) (by decide) (by decide)
   have g1:OpS W WA.drew S Q n i xs (some (v,x,u,l)) 0 0 (fun k=>k=OB∨vo.ownBlock=some k) S Q n (some (v,x,u,l)):=OpS.refl (Fr.drew H.out.2.1)
   have g2:=g1.trans (H2.out.2.2.2.2.2.2.2.ops (m:=5000) (R:=fun _=>False) (l:=l) (i:=i) (xs:=xs) (by have:=H2.out.2.2.2.2.2.2.1; omega)) fun _ h=>h.elim
   have g3:=(g2.trans (OpS.refl (R:=fun _=>False) n3) fun _ h=>h.elim).trans (OpS.side one) fun k e=>by have e:k=W.heap.size + 1:=e; exact .inr (by omega)
   exact ⟨st,tx,vo,lo,S,Q1,M1,n,t,some (v,x,u,l),false,rfl,⟨hst,htx⟩,ho6,⟨rfl,V6⟩,g3.weak (by omega) (by omega) fun _ _ h=>h,fun r hr=>.inl hr,by omega⟩
 · go_wp2_with fail
   refine (messages_any H2.out.1 (by omega) (by omega) ⟨#[83,84,79,82,69]⟩ (by decide) code H2.out.2.2.2.2.2.1 h3 vo2 lo2 H2.out.2.2.1.rd (by omega) (fun r hr=>(H2.out.2.2.2.1 r hr).2.mono (by omega)) HO2.out (by omega) hbb hbw (by omega) hOB hOw).mono ?_
   rintro e w3 ⟨st,tx,vo',lo',rfl,hst,ho3,hp3,hl3,v',u',l',V3,hpre,hv3,F3,st3⟩
   have b3:=F3.blk H2.out.2.1 (by
    rintro (e | e | e | e | e | e)
    · exact H2.out.1.st.not_foot H2.out.2.1 (by omega) (by decide) (by decide) (by decide) (by decide) (by decide) (by decide) e
    · exact H2.out.2.1.ne_ H2.out.1.vw (by decide) e
    · exact H2.out.2.1.ne_ H2.out.1.ix.1 (by decide) e
    · obtain ⟨cs,hc⟩:=H2.out.1.ix.2.1.heap e
      exact H2.out.2.1.ne_ hc (by decide) rfl
    · exact H2.out.2.1.ne_ HO2.out.b (by decide) e
    · exact HO2.out.r.ne_blk H2.out.2.1 (by decide) e)
   have c0:w3.cell? ⟨W.heap.size + 1,0,none⟩=some (.int .i64 0):=b3.cell 0
   have c1:w3.cell? ⟨W.heap.size + 1,1,none⟩=some (.string ⟨#[]⟩):=b3.cell 1
   have ff:=b3.froz
   go_wp2
   refine bodyPost_ret (results_cell1 rfl _ _ rfl (loadOut (b3.over2 (.int .i64 st) (.string tx)))) rfl ?_
   have one:=One.over2 w3 (W.heap.size + 1) (.int .i64 st) (.string tx)
   have V6:=V3.apart one (fun k hk _=>by
    have e:k=W.heap.size + 1:=hk
    rw [e]
    exact ⟨by omega,by omega,_,.inr (.inr b3)⟩)
   have ho6:=ho3.one one b3 (by decide) (by decide) (by decide)
   have g1:OpS W WA.drew S Q n i xs (some (v,x,u,l)) 0 0 (fun k=>k=OB∨vo.ownBlock=some k) S Q n (some (v,x,u,l)):=OpS.refl (Fr.drew H.out.2.1)
   have g2:=g1.trans (H2.out.2.2.2.2.2.2.2.ops (m:=5000) (R:=fun _=>False) (l:=l) (i:=i) (xs:=xs) (by have:=H2.out.2.2.2.2.2.2.1; omega)) fun _ h=>h.elim
   have g3:=(g2.trans (OpS.flushed (v':=v') (L:=(Q1.l i).filter fun x=>!(false || decide (x.k≠2))) (l:=l) (l':=l') hv3 F3 st3 (List.length_filter_le _ _)) fun _ h=>.inl h).trans (OpS.side one) fun k e=>by have e:k=W.heap.size + 1:=e; exact .inr (by omega)
   exact ⟨st,tx,vo',lo',S,_,M1,n,t,some (v,x,u',l'),false,rfl,hst,ho6,⟨rfl,V6⟩,g3.weak (by omega) (by omega) fun _ _ h=>h,fun r hr=>(hp3 r hr).imp id (fun h=>h.elim (fun h=>.inr ⟨_,_,_,_,rfl,(H2.out.2.2.2.1 r h).1.up hpre⟩) .inl),by omega⟩
end Go.Proofs.YtliimglbbiebiaaGreatDoor
end

section
namespace Go.Proofs.YtliimglbbiebiaaGreatDoor
open Go.RowKit Go.Maps
structure CmdOk (w:World) (c:Cmd) (s:List Rg) (l:List UInt8):Prop where
 t:c.t.size≤5000
 m:c.m.size≤1000000
 fl:0≤c.fl
 set:Rd rgE w (.slice c.sA c.sn c.sc) s
 wf:∀ r ∈ s,r.wf
 sl:s.length≤100000
 dat:Rd (intE .u8) w (.slice c.dA c.dn c.dc) (nums l)
def DoR (w0:World) (base:Nat) (w w':World) (S:Sx) (Q:Qs) (n f:Int) (i:Int) (xs:Nat) (o:Vo) (e:Ending):Prop :=
 ∃ v l S' Q' M' n' t' o' d',e=.returned v∧Own rspE 53 w.heap.size w' v l∧(∀ r ∈ l,GoodR o' r∧RspOk w.heap.size w' r)∧l.length≤200000001∧SO w0 base w' S' Q' M' n' t' f i xs o' d'∧OpS w w' S Q n i xs o 5000 1 (fun _=>False) S' Q' n' o'
theorem Own.fresh {α:Type} {E:Elem α} {x:α} {t:TypeId} {w:World} {base:Nat} (hb:base≤w.heap.size):Own E t base (w.alloc (.cells (E.enc x).toArray t)) (.slice (some ⟨w.heap.size,0,none⟩) 1 1) [x]:=by
 have hl:(E.cells [x]).length=[x].length * E.sz:=E.cells_length [x]
 have he:E.cells [x]=E.enc x:=by simp [Elem.cells]
 refine ⟨hl,.inr ⟨w.heap.size,1,(E.enc x).toArray,rfl,hb,Blk.new w t _,Nat.le_refl _,by unfold maxLen; decide,?_,?_⟩⟩
 · rw [he] at hl; simpa using hl
 · rw [← hl,he]; simp
section
variable {w0 w w':World} {base:Nat} {S:Sx} {Q:Qs} {M:List Msg} {n t f:Int} {i:Int} {xs:Nat} {o:Vo} {b:Bool}
theorem DoR.nothing (H:SO w0 base w S Q M n t f i xs o b) (hn:New w w') {v:Value} {l:List Rsp} (hv:Own rspE 53 w.heap.size w' v l) (hl:∀ r ∈ l,GoodR o r∧RspOk w.heap.size w' r) (hll:l.length≤200000001):DoR w0 base w w' S Q n f i xs o (.returned v) :=
 ⟨v,l,S,Q,M,n,t,o,b,rfl,hv,hl,hll,H.new hn,(OpS.refl hn).weak (by omega) (by omega) fun _ _ h=>h⟩
def noBoxS:ByteArray:=⟨#[110,111,32,109,97,105,108,98,111,120,32,115,101,108,101,99,116,101,100]⟩
theorem rep_ok (B:Nat) (W:World) (tg:ByteArray) (st:Int) (tx:ByteArray) (ht:tg.size≤5000) (hs:(0≤st∧st≤2)∧tx.size≤5000):RspOk B W (repR tg st tx)∧EvR (repR tg st tx):=by
 have h3:(0:Int)≤0∧(0:Int)≤31:=by decide
 have h4:(0:Int)≤0∧(0:Int)≤255:=by decide
 have h5:(0:Int)≤0∧(0:Int)≤4294967295:=by decide
 have h1:tg.size≤1000000:=by omega
 have h2:tx.size≤1000000:=by omega
 have h6:(1:Int)≤9∧(9:Int)≤10:=by decide
 exact ⟨{ kk:=h6,n0:=h5,t0:=h1,x0:=h2,st0:=hs.1,it0:=h3,fl0:=h4,uid0:=h5,sz0:=h5,body:=⟨[],Own.nil _ _ _ _,Nat.zero_le _⟩ },(by decide:bits .and .i64 0 2=0)⟩
theorem wrong_any (x:Nat) (bx:Value) (sid:Int) (pv:Option Addr) (dn:Bool) (tg tx:ByteArray) (ht:tg.size≤5000) (hx5:tx.size≤5000) (w:World) (hx:Ses w x bx sid pv dn) :
 Calls Tryz.prog 41 #[.pointer (some ⟨x,0,none⟩),.string tg,.string tx] w fun e w'=>∃ v l,e=.returned v∧Own rspE 53 w.heap.size w' v l∧(∀ r ∈ l,EvR r∧RspOk w.heap.size w' r)∧l.length≤1∧New w w':=by
 have hlt:=hx.lt
 obtain ⟨x0,x1,x2,x3⟩:=hx.all4
 clear hx
 cases dn
 case true =>
  go_enter Tryz.func41,Tryz.ntmps41
  go_wp2
  go_ret
  exact ⟨_,[],rfl,Own.nil _ _ _ _,by simp,by simp,New.refl w⟩
 rcases he:tg.toList.isEmpty with _ | _
 · go_enter Tryz.func41,Tryz.ntmps41
   go_wp2_with fail
   refine (reply_any tg 2 tx w).mono ?_
   rintro e w1 ⟨rfl,n1⟩
   have hrk:=rep_ok w.heap.size (w1.alloc (.cells (rspE.enc (repR tg 2 tx)).toArray 53)) tg 2 tx ht ⟨by omega,hx5⟩
   have hown:=Own.fresh (E:=rspE) (x:=repR tg 2 tx) (t:=53) (w:=w1) (base:=w.heap.size) n1.size
   unfold repV
   go_wp2
   go_ret
   exact ⟨_,[repR tg 2 tx],rfl,hown,fun r hr=>by rw [List.mem_singleton.1 hr]; exact ⟨hrk.2,hrk.1⟩,by simp,n1.alloc _⟩
 · go_enter Tryz.func41,Tryz.ntmps41
   go_wp2
   go_ret
   refine ⟨_,[⟨8,0,⟨#[]⟩,0,tx,0,0,0,0,none,0,0⟩],rfl,Own.fresh (E:=rspE) (x:=⟨8,0,⟨#[]⟩,0,tx,0,0,0,0,none,0,0⟩) (t:=53) (w:=w) (base:=w.heap.size) (Nat.le_refl _),fun r hr=>?_,by simp,(New.refl w).alloc _⟩
   rw [List.mem_singleton.1 hr]
   exact ⟨(by decide:bits .and .i64 0 2=0),RspOk.said _ _ 8 tx (by decide) (by omega)⟩
theorem do_op (H:SO w0 base w S Q M n t f i xs o false) (c:Cmd) (fn:Nat) (sel:Bool) (hE:∀ args w,(callFunc fn args).run Tryz.prog w=.ok (.enter fn args) w) (hop:get opsL c.k=some (opV fn sel)) (hok:iKeys.ok c.k) (hsel:sel=true→voP o≠none) (hct:c.t.size≤5000)
 (hV:∀ W,New w W→Calls Tryz.prog 38 #[c.val] W fun e W'=>e=.returned (.bool true)∧New W W')
 (hf:∀ OB W,New w W→w.heap.size≤OB→OutI w.heap.size OB (.slice none 0 0) [] W→Calls Tryz.prog fn #[.pointer (some ⟨xs,0,none⟩),c.val,addV OB] W fun e W'=>OpR w0 base W W' S Q n f i xs o w.heap.size OB (.slice none 0 0) [] e) :
 Calls Tryz.prog 17 #[.pointer (some ⟨xs,0,none⟩),c.val] w fun e w'=>DoR w0 base w w' S Q n f i xs o e:=by
 have hw:=H.st.hb
 have hw0:=H.st.new.size
 refine (xdo_any xs (.pointer (some ⟨S.s,0,none⟩)) i (voP o) c fn sel (fun k=>S.foot Q k∨mineO xs o k)
  (fun st tx l W=>∃ S' Q' M' n' t' o' d',((0≤st∧st≤2)∧tx.size≤300)∧SO w0 base W S' Q' M' n' t' f i xs o' d'∧OpS w W S Q n i xs o 5000 1 (fun _=>False) S' Q' n' o'∧(∀ r ∈ l,GoodR o' r∧RspOk w.heap.size W r)∧l.length≤200000000)
  w hE H.ses hop hok hsel hV ?_ (fun k hk=>hk.elim H.st.foot_lt (H.lt k)) ?_).mono ?_
 · intro OB W hW hOB hb
   refine (hf OB W hW hOB ⟨hb,Own.nil _ _ _ _,by simp⟩).mono ?_
   rintro e W' ⟨st,tx,vo',lo',S',Q',M',n',t',o',d',rfl,hst,ho,hso,hk,hg,hl⟩
   refine ⟨st,tx,vo',lo',rfl,ho.b,ho.r,by simp at hl; omega,hk.fr.mono fun k _ h=>?_,S',Q',M',n',t',o',d',hst,hso,?_,fun r hr=>⟨(hg r hr).resolve_left (by simp),ho.ok r hr⟩,by simpa using hl⟩
   · rcases h with h | h | h | h
     · exact .inr (.inl h)
     · exact .inr (.inr h)
     · exact .inl h
     · cases h
   · refine ((OpS.refl (R:=fun _=>False) hW).trans hk fun k h=>?_).weak (by omega) (by omega) fun _ _ h=>h
     rcases h with h | h
     · exact .inr (by omega)
     · cases h
 · rintro st tx l v A B ⟨S',Q',M',n',t',o',d',hst,hso,hk,hg,hl⟩ hv hf
   refine ⟨S',Q',M',n',t',o',d',hst,hso.apart hf fun k hk' _=>?_,((hk.trans (OpS.side hf) fun k h=>.inr (hv.block h).1).weak (by omega) (by omega) fun _ _ h=>h),fun r hr=>⟨(hg r hr).1,(hg r hr).2.fr hf fun k cs _ hc h=>hv.ne_blk hc (by decide) h⟩,hl⟩
   obtain ⟨cs,hc⟩:=hv.heap hk'
   have:=(hv.block hk').1
   exact ⟨by omega,by omega,cs,.inr (.inl hc)⟩
 · rintro e w' ⟨st,tx,v,l,rfl,hv,_,S',Q',M',n',t',o',d',hst,hso,hk,hg,hl⟩
   have hrk:=rep_ok w.heap.size w' c.t st tx hct ⟨hst.1,by omega⟩
   refine ⟨v,l ++ [repR c.t st tx],S',Q',M',n',t',o',d',rfl,hv,fun r hr=>?_,by simp; omega,hso,hk⟩
   rcases List.mem_append.1 hr with hr | hr
   · exact hg r hr
   · rw [List.mem_singleton.1 hr]
     exact ⟨.inl hrk.2,hrk.1⟩
theorem do_done (H:SO w0 base w S Q M n t f i xs o true) (c:Cmd):Calls Tryz.prog 17 #[.pointer (some ⟨xs,0,none⟩),c.val] w fun e w'=>DoR w0 base w w' S Q n f i xs o e:=by
 obtain ⟨x0,x1,x2,x3⟩:=H.ses.all4
 have HH:=Lib.hid H
 have hlt:=H.ses.lt
 have y3:∀ ob,(w.alloc ob).cell? ⟨xs,3,none⟩=some (.bool true):=fun ob=>(H.ses.alloc ob).cell 3
 clear H
 go_enter Tryz.func17,Tryz.ntmps17
 go_wp2
 go_ret
 exact DoR.nothing HH.out ((New.refl w).alloc _) (Own.nil _ _ _ _) (by simp) (by simp)
theorem do_bad (H:SO w0 base w S Q M n t f i xs o false) (c:Cmd) (hV:∀ W,New w W→Calls Tryz.prog 38 #[c.val] W fun e W'=>e=.returned (.bool false)∧New W W'):Calls Tryz.prog 17 #[.pointer (some ⟨xs,0,none⟩),c.val] w fun e w'=>DoR w0 base w w' S Q n f i xs o e:=by
 have HH:=Lib.hid H
 have hlt:=H.ses.lt
 have y3:∀ ob,(w.alloc ob).cell? ⟨xs,3,none⟩=some (.bool false):=fun ob=>(H.ses.alloc ob).cell 3
 have n0:New w (w.alloc (.cells #[.string c.t,.int .i64 c.k,.string c.m,.slice c.sA c.sn c.sc,.int .i64 c.it,.int .i64 c.mo,.bool c.si,.int .u8 c.fl,.slice c.dA c.dn c.dc] 47)):=(New.refl w).alloc _
 have HV:=Lib.hid (hV _ n0)
 clear H hV
 go_enter Tryz.func17,Tryz.ntmps17
 go_wp2_with fail
 refine HV.out.mono ?_
 rintro e w1 ⟨rfl,n1⟩
 go_wp2
 go_ret
 exact DoR.nothing HH.out (n0.trans n1) (Own.nil _ _ _ _) (by simp) (by simp)
theorem do_wrong (H:SN w0 base w S Q M n t f i xs false) (c:Cmd) (hct:c.t.size≤5000) (fn:Nat) (hop:get opsL c.k=some (opV fn true)) (hok:iKeys.ok c.k)
 (hV:∀ W,New w W→Calls Tryz.prog 38 #[c.val] W fun e W'=>e=.returned (.bool true)∧New W W'):Calls Tryz.prog 17 #[.pointer (some ⟨xs,0,none⟩),c.val] w fun e w'=>DoR w0 base w w' S Q n f i xs none e:=by
 have hmf:∀ (fn:Fn) (first cap:Array Value) (w:World),(Instr.makeFunc fn first cap).run Tryz.prog w=.ok (.func fn first cap) w:=fun _ _ _ _=>rfl
 have HH:=Lib.hid H
 have hlt:=H.ses.lt
 have hx:=H.ses
 have y3:∀ ob,(w.alloc ob).cell? ⟨xs,3,none⟩=some (.bool false):=fun ob=>(hx.alloc ob).cell 3
 have n0:New w (w.alloc (.cells #[.string c.t,.int .i64 c.k,.string c.m,.slice c.sA c.sn c.sc,.int .i64 c.it,.int .i64 c.mo,.bool c.si,.int .u8 c.fl,.slice c.dA c.dn c.dc] 47)):=(New.refl w).alloc _
 have b0:Blk (w.alloc (.cells #[.string c.t,.int .i64 c.k,.string c.m,.slice c.sA c.sn c.sc,.int .i64 c.it,.int .i64 c.mo,.bool c.si,.int .u8 c.fl,.slice c.dA c.dn c.dc] 47)) w.heap.size 47 #[.string c.t,.int .i64 c.k,.string c.m,.slice c.sA c.sn c.sc,.int .i64 c.it,.int .i64 c.mo,.bool c.si,.int .u8 c.fl,.slice c.dA c.dn c.dc]:=Blk.new _ _ _
 have HV:=Lib.hid (hV _ n0)
 have HG:=ops_get c.k fn true hop hok
 clear H hV hop
 go_enter Tryz.func17,Tryz.ntmps17
 go_wp2_with fail
 refine HV.out.mono ?_
 rintro e w1 ⟨rfl,m1⟩
 have n1:New w w1:=n0.trans m1
 have b1:=m1.blk b0
 have hx1:=n1.blk hx
 have l1:=b1.lt
 clear b0 n0 m1 y3 hlt
 go_wp2_with fail
 have nA:=n1.alloc (.cells #[.slice none 0 0] 50)
 have bA:=b1.alloc (.cells #[.slice none 0 0] 50)
 have hxA:=hx1.alloc (.cells #[.slice none 0 0] 50)
 have sA:(w1.alloc (.cells #[.slice none 0 0] 50)).heap.size=w1.heap.size + 1:=by rw [World.size_alloc]
 generalize (w1.alloc (.cells #[.slice none 0 0] 50))=wA at *
 generalize w1.heap.size=OB at *
 clear b1 hx1 n1 w1
 have kA:wA.cell? ⟨w.heap.size,1,none⟩=some (.int .i64 c.k):=bA.cell 1
 have hlA:w.heap.size < wA.heap.size:=by omega
 have HSA:=Lib.hid sA
 clear sA
 go_region_held3 (fun W=>W.cell? ⟨w.heap.size,1,none⟩=some (.int .i64 c.k)) (first | go_keep | assumption | exact S0 _ _) ((first
  | (go_at_call 40
     refine (HG _).mono ?_
     rintro e w2 ⟨m,rfl,m2,hl,hl'⟩
     have hnq:New wA w2:=Fr.trans (by repeat' first | exact New.refl _ | apply Fr.alloc | apply Fr.drewN | apply Fr.drew) m2
     have c2:w2.cell? ⟨w.heap.size,1,none⟩=some (.int .i64 c.k):=(hnq.blk bA).cell 1
     have s2:=hnq.size
     have S0:∀ u v,((w2.setCell ⟨wA.heap.size,0,none⟩ u).setCell ⟨wA.heap.size,1,none⟩ v).cell? ⟨w.heap.size,1,none⟩=some (.int .i64 c.k):=fun u v=>Fr.cell (((One.refl wA.heap.size w2).set 0 u).set 1 v) c2 (by show ¬ w.heap.size=wA.heap.size; omega)
     try (have y:=m2.blk (Blk.new wA.drew 103 #[.nilFunc,.bool false]); simp only [World.size_drew] at y; have y0:w2.cell? ⟨wA.heap.size,0,none⟩=some .nilFunc:=y.cell 0; have y1:w2.cell? ⟨wA.heap.size,1,none⟩=some (.bool false):=y.cell 1; have z0:w2.frozen? ⟨wA.heap.size,0,none⟩=false:=y.frozen 0; have z1:w2.frozen? ⟨wA.heap.size,1,none⟩=false:=y.frozen 1))
  | fail))
 all_goals
  first
  | (have n2:New wA ((w2.setCell ⟨wA.heap.size,0,none⟩ (.func (.func fn) #[] #[])).setCell ⟨wA.heap.size,1,none⟩ (.bool true)):=New.one hnq (((One.refl wA.heap.size w2).set 0 _).set 1 _) (Nat.le_refl _)
     have e1:Blk ((w2.setCell ⟨wA.heap.size,0,none⟩ (.func (.func fn) #[] #[])).setCell ⟨wA.heap.size,1,none⟩ (.bool true)) wA.heap.size 103 #[.func (.func fn) #[] #[],.bool true]:=y.over2 _ _
     generalize ((w2.setCell ⟨wA.heap.size,0,none⟩ (.func (.func fn) #[] #[])).setCell ⟨wA.heap.size,1,none⟩ (.bool true))=w3 at n2 e1 ⊢
     generalize wA.heap.size=G at e1 ⊢)
  | (have n2:New wA (w2.alloc (.cells #[.func (.func fn) #[] #[],.bool true] 103)):=hnq.alloc _
     have e1:Blk (w2.alloc (.cells #[.func (.func fn) #[] #[],.bool true] 103)) w2.heap.size 103 #[.func (.func fn) #[] #[],.bool true]:=Blk.new _ _ _
     generalize (w2.alloc (.cells #[.func (.func fn) #[] #[],.bool true] 103))=w3 at n2 e1 ⊢
     generalize w2.heap.size=G at e1 ⊢)
  have b3:=n2.blk bA
  have hx3:=n2.blk hxA
  have n3:=nA.trans n2
  clear n2
  obtain ⟨x0,x1,x2,x3⟩:=hx3.all4
  have k0:w3.cell? ⟨w.heap.size,0,none⟩=some (.string c.t):=b3.cell 0
  obtain ⟨g0,g1⟩:=e1.all2
  have HW:=Lib.hid (wrong_any xs _ i none false c.t noBoxS hct (by decide) w3 hx3)
  clear b3 hx3 e1
  go_wp2_with fail
  refine HW.out.mono ?_
  rintro e w4 ⟨v,l,rfl,hv,hl,hll,n4⟩
  go_wp2
  go_ret
  exact DoR.nothing (o:=none) HH.out (n3.trans n4) (hv.mono n3.size) (fun r hr=>⟨.inl (hl r hr).1,(hl r hr).2.mono n3.size⟩) (by omega)
theorem okI8 {k:Int} (h1:1≤k) (h8:k≤8):iKeys.ok k:=by
 have:k=1∨k=2∨k=3∨k=4∨k=5∨k=6∨k=7∨k=8:=by omega
 rcases this with rfl | rfl | rfl | rfl | rfl | rfl | rfl | rfl <;> (show (Lit.int .i64 _).wf=true; decide)
theorem xdo_all (H:SO w0 base w S Q M n t f i xs o b) (hn:n≤5000) (hQ:∀ j ∈ Q.ids,(Q.l j).length≤90000000) (hq:Q.ids.length≤1000) (hcap:S.cap≤1000) (hT:Tabs w0) (hf:0≤f∧f≤4294967295) (c:Cmd) (s:List Rg) (l:List UInt8) (hc:CmdOk w c s l)
 (hfar:∀ b,Value.ownBlock (.slice c.dA c.dn c.dc)=some b→nums l≠[]→¬ S.foot Q b) :
 Calls Tryz.prog 17 #[.pointer (some ⟨xs,0,none⟩),c.val] w fun e w'=>DoR w0 base w w' S Q n f i xs o e:=by
 cases b
 case true=>exact do_done H c
 have hst:=H.st
 have hw:=hst.hb
 have hw0:=hst.new.size
 have hTw:=hT.new hst.new
 obtain ⟨vb,hvb,hV0⟩:=valid_any c (by have:=hc.t; omega) l
 have hV:∀ W,New w W→Calls Tryz.prog 38 #[c.val] W fun e W'=>e=.returned (.bool vb)∧New W W':=fun W hW=>hV0 W (hTw.new hW) (hc.dat.new hW)
 clear hV0
 cases vb
 case false=>exact do_bad H c hV
 obtain ⟨hk1,hk8⟩:=hvb rfl
 have hok:=okI8 hk1 hk8
 have hn1:=hst.n1
 obtain ⟨nN,rfl⟩:∃ nN:Nat,n=nN:=⟨n.toNat,by omega⟩
 obtain ⟨fN,rfl⟩:∃ fN:Nat,f=fN:=⟨f.toNat,by omega⟩
 have hfN:fN < 4294967296:=by omega
 have hk:c.k=1∨c.k=2∨c.k=5∨c.k=6∨c.k=3∨c.k=4∨c.k=7∨c.k=8:=by omega
 rcases hk with hk | hk | hk | hk | hk
 · exact do_op H c 65 false (enters_of Tryz.func65 (by kernel_rfl) rfl) (by rw [hk]; rfl) hok (fun h=>by cases h) hc.t hV fun OB W hW hOB ho=>xnoop_any (H.new hW) hn hQ c ho (by simp) hw hw0 hW.size (by omega) (by omega)
 · exact do_op H c 66 false (enters_of Tryz.func66 (by kernel_rfl) rfl) (by rw [hk]; rfl) hok (fun h=>by cases h) hc.t hV fun OB W hW hOB ho=>xlogout_any (H.new hW) c ho (by simp) hw hw0 hW.size (by omega) (by omega)
 · exact do_op H c 67 false (enters_of Tryz.func67 (by kernel_rfl) rfl) (by rw [hk]; rfl) hok (fun h=>by cases h) hc.t hV fun OB W hW hOB ho=>xchoose_any nN fN hfN hT (H.new hW) hn hq hcap c hc.m ho (by simp) hw hw0 hW.size (by omega) (by omega)
 · exact do_op H c 68 false (enters_of Tryz.func68 (by kernel_rfl) rfl) (by rw [hk]; rfl) hok (fun h=>by cases h) hc.t hV fun OB W hW hOB ho=>xappend_any fN hfN hT (H.new hW) hn hQ c hc.fl hc.m (nums l) (hc.dat.new hW) hfar ho (by simp) hw hw0 hW.size (by omega) (by omega)
 · rcases o with _ | ⟨v,x,u,lv⟩
   · rcases hk with hk | hk | hk | hk
     · exact do_wrong H c hc.t 69 (by rw [hk]; rfl) hok hV
     · exact do_wrong H c hc.t 70 (by rw [hk]; rfl) hok hV
     · exact do_wrong H c hc.t 71 (by rw [hk]; rfl) hok hV
     · exact do_wrong H c hc.t 72 (by rw [hk]; rfl) hok hV
   · have hsel:true=true→voP (some (v,x,u,lv))≠none:=fun _ h=>by cases h
     rcases hk with hk | hk | hk | hk
     · exact do_op H c 69 true (enters_of Tryz.func69 (by kernel_rfl) rfl) (by rw [hk]; rfl) hok hsel hc.t hV fun OB W hW hOB ho=>xclose_any (H.new hW) hn hQ c ho (by simp) hw hw0 hW.size (by omega) (by omega)
     · exact do_op H c 70 true (enters_of Tryz.func70 (by kernel_rfl) rfl) (by rw [hk]; rfl) hok hsel hc.t hV fun OB W hW hOB ho=>xexpunge_any (H.new hW) hn hQ c ho (by simp) hw hw0 hW.size (by omega) (by omega)
     · exact do_op H c 71 true (enters_of Tryz.func71 (by kernel_rfl) rfl) (by rw [hk]; rfl) hok hsel hc.t hV fun OB W hW hOB ho=>xfetch_any (H.2.new hW) hn hQ c s (hc.set.new hW) hc.wf hc.sl ho (by simp) hw hw0 hW.size (by omega) (by omega)
     · exact do_op H c 72 true (enters_of Tryz.func72 (by kernel_rfl) rfl) (by rw [hk]; rfl) hok hsel hc.t hV fun OB W hW hOB ho=>xstore_any (H.2.new hW) hn hQ c hc.fl s (hc.set.new hW) hc.wf hc.sl ho (by simp) hw hw0 hW.size (by omega) (by omega)
end
end Go.Proofs.YtliimglbbiebiaaGreatDoor
end

section
namespace Go.Proofs.YtliimglbbiebiaaGreatDoor
open Go.ChangeShapes Go.WideShapes Go.ChangeAt Go.RowKit Go.Deep
section
variable {H:Type} {enc:TypeId × Value→H} {P:Program} {w:World} {base:Nat} {spare:Nat→Bool} {held:Bool}
theorem open_slice_fields {t e:TypeId} {fs:Array Field} {fuel:Nat} {cs:List Value} {x:DataW H × List MemPlace} (ht:P.underlying t=some (.slice e)) (he:P.underlying e=some (.struct fs))
 (hone:oneCellFields P fs=true) (hC:P.cellsOf e=fs.size) (h:DataW.trod enc P w base spare held fuel t cs=some x) :
 (cs=[.slice none 0 0]∧x=(.nil,[])) ∨
 ∃ (a:Addr) (len cap m:Nat) (D:Nat→DataW H) (Pl:Nat→List MemPlace),cs=[.slice (some a) len cap]∧base≤a.block∧len≤cap∧cap≤maxLen∧m=(if spare a.block then cap else len) ∧
   x=(.slice ((List.range len).map D) ((List.range (m - len)).map fun j=>D (len + j)),MemPlace.row a (m * fs.size) ++ (List.range m).flatMap Pl) ∧
   ∀ i,i < m→∃ (ys:List (DataW H × List MemPlace)) (n:Nat),D i=.agg (ys.map (·.1))∧Pl i=ys.flatMap (·.2)∧ys.length=fs.size ∧
     ∀ (j:Nat) (f:Field),fs[j]? = some f→∃ (v:Value) (y:DataW H × List MemPlace),w.cell? (a.add (i * fs.size + j))=some v∧ys[j]? = some y∧DataW.trod enc P w base spare held n f.type [v]=some y:=by
 rcases open_slice ht h with h0 | ⟨a,len,cap,m,n,D,Pl,hcs,hb,hl,hm,hmm,hx,hi⟩
 · exact .inl h0
 · refine .inr ⟨a,len,cap,m,D,Pl,hcs,hb,hl,hm,hmm,by rw [hC] at hx; exact hx,fun i him=>?_⟩
   obtain ⟨cs',hc,ht'⟩:=hi i him
   rw [hC] at hc
   obtain ⟨ys,n',hn',hy,hlen,hyl,hf⟩:=DataW.trod_struct he ht'
   obtain ⟨_,hcl,hat⟩:=World.cells?_some hc
   simp only [Prod.mk.injEq] at hy
   refine ⟨ys,n',hy.1,hy.2,hyl,fun j f hj=>?_⟩
   obtain ⟨ho,hk⟩:=hone_of hone j f hj
   have hjl:j < fs.size:=(Array.getElem?_eq_some_iff.1 hj).1
   have hcell:=hat j hjl
   have hv:cs'[j]? = some (cs'[j]'(by omega)):=List.getElem?_eq_getElem (by omega)
   have h1:=hf j f hj
   rw [ho,hk] at h1
   have hone':(cs'.drop j).take 1=[cs'[j]'(by omega)]:=by
    rw [List.drop_eq_getElem_cons (by omega)]
    rfl
   rw [hone'] at h1
   have hys:ys[j]? = some (ys[j]'(by omega)):=List.getElem?_eq_getElem (by omega)
   refine ⟨_,_,?_,hys,h1.trans hys⟩
   rw [← Go.Deep.add_add,hcell,hv]
end
theorem spot_none0 {w:World} {b off:Nat} {s:Option Nat} {v:Value} (h:w.cell? ((⟨b,off,s⟩:Addr).add 0)=some v):s=none:=by
 simpa [Addr.add] using World.cell?_spot h
end Go.Proofs.YtliimglbbiebiaaGreatDoor
end

section
namespace Go.Proofs.YtliimglbbiebiaaGreatDoor
open Go.ChangeShapes Go.WideShapes Go.ChangeAt Go.RowKit Go.Deep
structure TOp where
 who:Int
 c:Cmd
 s:List Rg
 l:List UInt8
def topE:Elem TOp where
 enc o:=[.int .u8 o.who,.string o.c.t,.int .i64 o.c.k,.string o.c.m,.slice o.c.sA o.c.sn o.c.sc,.int .i64 o.c.it,.int .i64 o.c.mo,.bool o.c.si,.int .u8 o.c.fl,.slice o.c.dA o.c.dn o.c.dc]
 sz:=10
 len _:=rfl
 one x u hu:=by simp at hu; rcases hu with rfl | rfl | rfl | rfl | rfl | rfl | rfl | rfl | rfl | rfl <;> rfl
 pos:=by omega
structure CIn (W:World) (c:Cmd) (s:List Rg) (l:List UInt8):Prop where
 fl:0≤c.fl
 set:Rd rgE W (.slice c.sA c.sn c.sc) s
 wf:∀ r ∈ s,r.wf
 dat:Rd (intE .u8) W (.slice c.dA c.dn c.dc) (nums l)
def TOp.inn (W:World) (o:TOp):Prop:=(0≤o.who∧o.who≤255)∧CIn W o.c o.s o.l
theorem ubytes_of {H:Type} {enc:TypeId × Value→H} {W:World} {sp:Nat→Bool} {held:Bool} {base fuel:Nat} {v:Value} {x:DataW H × List MemPlace}
 (hf:DataW.trod enc Tryz.prog W base sp held fuel 23 [v]=some x):∃ A n c l,v=.slice A n c∧Rd (intE .u8) W v (nums l):=by
 rcases open_ints Tryz.underlying23 Tryz.underlying5 (by kernel_rfl) hf with ⟨hcs,_⟩ | ⟨x,l,c,zs,hcs,_,hl,hm,hz,_,hcell,hwz⟩
 · simp at hcs
   subst hcs
   exact ⟨none,0,0,[],rfl,Rd.nil _ _⟩
 · simp at hcs
   subst hcs
   have hle:l≤zs.length:=by rw [hz]; split <;> omega
   have hl0:(zs.take l).length=l:=by rw [List.length_take]; omega
   have hnu:nums ((zs.take l).map fun z=>UInt8.ofNat z.toNat)=zs.take l:=by
    unfold nums
    rw [List.map_map]
    conv=>rhs; rw [← List.map_id (zs.take l)]
    refine List.map_congr_left fun z hz'=>?_
    have hb:=bounds_u8 (hwz z (List.mem_of_mem_take hz'))
    simp only [Function.comp,id]
    rw [UInt8.toNat_ofNat']
    have:z.toNat % 2 ^ 8=z.toNat:=Nat.mod_eq_of_lt (by omega)
    omega
   refine ⟨some x,l,c,(zs.take l).map fun z=>UInt8.ofNat z.toNat,rfl,?_⟩
   rw [hnu]
   refine ⟨some x,c,by rw [hl0],by rw [hl0]; exact hl,fun hne=>?_⟩
   have hn':0 < l:=by
    rcases Nat.eq_zero_or_pos l with h0 | h0
    · subst h0; simp at hne
    · exact h0
   obtain ⟨b,off,s⟩:=x
   have h0:=hcell 0 (by omega)
   obtain rfl:=spot_none0 h0
   refine ⟨b,off,rfl,fun i y hy j u hu=>?_⟩
   have hi:i < l:=by
    have:=(List.getElem?_eq_some_iff.1 hy).1
    rwa [hl0] at this
   have hj:j=0:=by have:=(List.getElem?_eq_some_iff.1 hu).1; simp [intE] at this; exact this
   subst hj
   simp [intE] at hu
   subst hu
   have h1:=hcell i (by omega)
   rw [Addr.add_lit] at h1
   rw [List.getElem?_take_of_lt hi] at hy
   simp [List.getD,hy] at h1
   simpa [intE] using h1
theorem rg_fields:oneCellFields Tryz.prog (Tryz.prog.fieldsOf 191)=true:=by kernel_rfl
theorem rg_fields_size:Tryz.prog.cellsOf 191=(Tryz.prog.fieldsOf 191).size:=by kernel_rfl
theorem rg_fields2:(Tryz.prog.fieldsOf 191).size=2:=by kernel_rfl
theorem rgs_of {H:Type} {enc:TypeId × Value→H} {W:World} {sp:Nat→Bool} {held:Bool} {base fuel:Nat} {v:Value} {x:DataW H × List MemPlace}
 (hf:DataW.trod enc Tryz.prog W base sp held fuel 44 [v]=some x):∃ A n c l,v=.slice A n c∧Rd rgE W v l∧∀ y ∈ l,y.wf:=by
 have hst:Tryz.prog.underlying 191=some (.struct (Tryz.prog.fieldsOf 191)):=by kernel_rfl
 rcases open_slice_fields Tryz.underlying44 hst rg_fields rg_fields_size hf with ⟨hcs,_⟩ | ⟨a,len,cap,m,D,Pl,hcs,_,hl,hcm,hm,_,hi⟩
 · simp at hcs
   subst hcs
   exact ⟨none,0,0,[],rfl,Rd.nil _ _,by simp⟩
 · simp at hcs
   subst hcs
   rw [rg_fields2] at hi
   have hml:len≤m:=by rw [hm]; split <;> omega
   have hel:∀ i,i < len→∃ e:Rg,e.wf∧W.cell? (a.add (i * 2))=some (.int .u32 e.lo)∧W.cell? (a.add (i * 2 + 1))=some (.int .u32 e.hi):=by
    intro i hil
    obtain ⟨ys,n,_,_,_,hj⟩:=hi i (by omega)
    simp only [Program.fieldsOf,Tryz.underlying191] at hj
    obtain ⟨v0,y0,h0,_,t0⟩:=hj 0 _ rfl
    obtain ⟨v1,y1,h1,_,t1⟩:=hj 1 _ rfl
    obtain ⟨k,e0,_,w0⟩:=DataW.trod_int Tryz.underlying28 t0
    obtain ⟨k1,e1,_,w1⟩:=DataW.trod_int Tryz.underlying28 t1
    simp at e0 e1
    subst e0 e1
    have b0:=bounds_u32 w0
    have b1:=bounds_u32 w1
    exact ⟨⟨k,k1⟩,⟨b0.1,b0.2,b1.1,b1.2⟩,h0,h1⟩
   obtain ⟨g,hg⟩:∃ g:Nat→Rg,∀ i,i < len→(g i).wf∧W.cell? (a.add (i * 2))=some (.int .u32 (g i).lo)∧W.cell? (a.add (i * 2 + 1))=some (.int .u32 (g i).hi) :=
    ⟨fun i=>if h:i < len then Classical.choose (hel i h) else ⟨0,0⟩,fun i h=>by simp only [h,dif_pos]; exact Classical.choose_spec (hel i h)⟩
   have hln:((List.range len).map g).length=len:=by simp
   refine ⟨some a,len,cap,(List.range len).map g,rfl,⟨some a,cap,by rw [hln],by rw [hln]; exact hl,fun hne=>?_⟩,fun y hy=>?_⟩
   · obtain ⟨b,off,s⟩:=a
     have hlen:0 < len:=by
      rcases Nat.eq_zero_or_pos len with h0 | h0
      · subst h0; simp at hne
      · exact h0
     have hs0:=(hg 0 hlen).2.1
     rw [Nat.zero_mul] at hs0
     obtain rfl:=spot_none0 hs0
     refine ⟨b,off,rfl,fun i x hx j u hu=>?_⟩
     have hil:i < len:=by
      have:=(List.getElem?_eq_some_iff.1 hx).1
      rwa [hln] at this
     rw [List.getElem?_map,List.getElem?_range hil] at hx
     simp only [Option.map_some,Option.some.injEq] at hx
     subst hx
     obtain ⟨_,h0,h1⟩:=hg i hil
     rw [Addr.add_lit] at h0 h1
     have hj:j < 2:=(List.getElem?_eq_some_iff.1 hu).1
     rcases (by omega:j=0∨j=1) with rfl | rfl <;> (simp [rgE] at hu; subst hu; assumption)
   · obtain ⟨i,hi2,rfl⟩:=List.mem_map.1 hy
     exact (hg i (List.mem_range.1 hi2)).1
theorem cmd_desc:∃ f0 f1 f2 f3 f4 f5 f6 f7 f8:Field,Tryz.prog.underlying 47=some (.struct #[f0,f1,f2,f3,f4,f5,f6,f7,f8])∧(f0.type=9∧f0.offset=0)∧(f1.type=3∧f1.offset=1)∧(f2.type=9∧f2.offset=2)∧(f3.type=44∧f3.offset=3)∧(f4.type=3∧f4.offset=4)∧(f5.type=3∧f5.offset=5)∧(f6.type=4∧f6.offset=6)∧(f7.type=45∧f7.offset=7)∧(f8.type=23∧f8.offset=8) :=
 ⟨_,_,_,_,_,_,_,_,_,Tryz.underlying47,⟨rfl,rfl⟩,⟨rfl,rfl⟩,⟨rfl,rfl⟩,⟨rfl,rfl⟩,⟨rfl,rfl⟩,⟨rfl,rfl⟩,⟨rfl,rfl⟩,⟨rfl,rfl⟩,⟨rfl,rfl⟩⟩
theorem cmd_of {H:Type} {enc:TypeId × Value→H} {W:World} {sp:Nat→Bool} {held:Bool} {base fuel:Nat} {cs:List Value} {x:DataW H × List MemPlace}
 (hf:DataW.trod enc Tryz.prog W base sp held fuel 47 cs=some x) :
 ∃ (c:Cmd) (s:List Rg) (l:List UInt8),cs=[.string c.t,.int .i64 c.k,.string c.m,.slice c.sA c.sn c.sc,.int .i64 c.it,.int .i64 c.mo,.bool c.si,.int .u8 c.fl,.slice c.dA c.dn c.dc]∧CIn W c s l:=by
 obtain ⟨f0,f1,f2,f3,f4,f5,f6,f7,f8,hd,⟨t0,o0⟩,⟨t1,o1⟩,⟨t2,o2⟩,⟨t3,o3⟩,⟨t4,o4⟩,⟨t5,o5⟩,⟨t6,o6⟩,⟨t7,o7⟩,⟨t8,o8⟩⟩:=cmd_desc
 obtain ⟨ys,n,_,_,hl,hyl,hj⟩:=DataW.trod_struct hd hf
 have hys:∀ j,j < 9→∃ y,ys[j]? = some y:=fun j hj=>⟨_,List.getElem?_eq_getElem (by rw [hyl]; exact hj)⟩
 rw [show Tryz.prog.cellsOf 47=9 from by kernel_rfl] at hl
 match cs,hl with
 | [a0,a1,a2,a3,a4,a5,a6,a7,a8],_ =>
 obtain ⟨y0,e0⟩:=hys 0 (by omega)
 obtain ⟨y1,e1⟩:=hys 1 (by omega)
 obtain ⟨y2,e2⟩:=hys 2 (by omega)
 obtain ⟨y3,e3⟩:=hys 3 (by omega)
 obtain ⟨y4,e4⟩:=hys 4 (by omega)
 obtain ⟨y5,e5⟩:=hys 5 (by omega)
 obtain ⟨y6,e6⟩:=hys 6 (by omega)
 obtain ⟨y7,e7⟩:=hys 7 (by omega)
 obtain ⟨y8,e8⟩:=hys 8 (by omega)
 have h0:=(hj 0 f0 rfl).trans e0
 have h1:=(hj 1 f1 rfl).trans e1
 have h2:=(hj 2 f2 rfl).trans e2
 have h3:=(hj 3 f3 rfl).trans e3
 have h4:=(hj 4 f4 rfl).trans e4
 have h5:=(hj 5 f5 rfl).trans e5
 have h6:=(hj 6 f6 rfl).trans e6
 have h7:=(hj 7 f7 rfl).trans e7
 have h8:=(hj 8 f8 rfl).trans e8
 clear hj hys e0 e1 e2 e3 e4 e5 e6 e7 e8
 rw [t0,o0,show Tryz.prog.cellsOf 9=1 from by kernel_rfl] at h0
 rw [t1,o1,show Tryz.prog.cellsOf 3=1 from by kernel_rfl] at h1
 rw [t2,o2,show Tryz.prog.cellsOf 9=1 from by kernel_rfl] at h2
 rw [t3,o3,show Tryz.prog.cellsOf 44=1 from by kernel_rfl] at h3
 rw [t4,o4,show Tryz.prog.cellsOf 3=1 from by kernel_rfl] at h4
 rw [t5,o5,show Tryz.prog.cellsOf 3=1 from by kernel_rfl] at h5
 rw [t6,o6,show Tryz.prog.cellsOf 4=1 from by kernel_rfl] at h6
 rw [t7,o7,show Tryz.prog.cellsOf 45=1 from by kernel_rfl] at h7
 rw [t8,o8,show Tryz.prog.cellsOf 23=1 from by kernel_rfl] at h8
 obtain ⟨tg,g0,_,_⟩:=DataW.trod_string Tryz.underlying9 h0
 obtain ⟨k,g1,_,_⟩:=DataW.trod_int Tryz.underlying3 h1
 obtain ⟨m,g2,_,_⟩:=DataW.trod_string Tryz.underlying9 h2
 obtain ⟨it,g4,_,_⟩:=DataW.trod_int Tryz.underlying3 h4
 obtain ⟨mo,g5,_,_⟩:=DataW.trod_int Tryz.underlying3 h5
 obtain ⟨si,g6,_⟩:=DataW.trod_bool Tryz.underlying4 h6
 obtain ⟨fl,g7,_,w7⟩:=DataW.trod_int Tryz.underlying45 h7
 simp at g0 g1 g2 g4 g5 g6 g7 h3 h8
 subst g0 g1 g2 g4 g5 g6 g7
 obtain ⟨sA,sn,sc,s,rfl,hs,hw⟩:=rgs_of h3
 obtain ⟨dA,dn,dc,l,rfl,hd⟩:=ubytes_of h8
 exact ⟨⟨tg,k,m,sA,sn,sc,it,mo,si,fl,dA,dn,dc⟩,s,l,rfl,(bounds_u8 w7).1,hs,hw,hd⟩
theorem tpop_desc:∃ f0 f1:Field,Tryz.prog.underlying 49=some (.struct #[f0,f1])∧(f0.type=5∧f0.offset=0)∧(f1.type=47∧f1.offset=1):=⟨_,_,Tryz.underlying49,⟨rfl,rfl⟩,⟨rfl,rfl⟩⟩
theorem top_of {H:Type} {enc:TypeId × Value→H} {W:World} {sp:Nat→Bool} {held:Bool} {base fuel:Nat} {cs:List Value} {x:DataW H × List MemPlace}
 (hf:DataW.trod enc Tryz.prog W base sp held fuel 49 cs=some x):∃ o:TOp,cs=topE.enc o∧o.inn W:=by
 obtain ⟨f0,f1,hd,⟨t0,o0⟩,⟨t1,o1⟩⟩:=tpop_desc
 obtain ⟨y0,y1,n,_,hl,h0,h1⟩:=trod_struct2 hd hf
 rw [t0,o0,show Tryz.prog.cellsOf 5=1 from by kernel_rfl] at h0
 rw [t1,o1,show Tryz.prog.cellsOf 47=9 from by kernel_rfl] at h1
 rw [show Tryz.prog.cellsOf 49=10 from by kernel_rfl] at hl
 match cs,hl with
 | [a0,a1,a2,a3,a4,a5,a6,a7,a8,a9],_ =>
 obtain ⟨k,e0,_,w0⟩:=DataW.trod_int Tryz.underlying5 h0
 obtain ⟨c,s,l,hc,hi⟩:=cmd_of h1
 simp at e0 hc
 obtain ⟨rfl,rfl,rfl,rfl,rfl,rfl,rfl,rfl,rfl⟩:=hc
 subst e0
 exact ⟨⟨k,c,s,l⟩,rfl,bounds_u8 w0,hi⟩
theorem op_bytes:Tryz.prog.bytesOf 49=120:=by kernel_rfl
theorem tops_of {H:Type} {enc:TypeId × Value→H} {W:World} {sp:Nat→Bool} {held:Bool} {base fuel:Nat} {a0:Option Addr} {len cap:Nat} {x:DataW H × List MemPlace}
 (hf:DataW.trod enc Tryz.prog W base sp held fuel 37 [.slice a0 len cap]=some x) :
 ∃ l:List TOp,Rd topE W (.slice a0 len cap) l∧(∀ y ∈ l,y.inn W)∧l.length=len∧((x.1.weights Tryz.prog 37).all (·≤reachBytes)=true→len * 120≤reachBytes):=by
 rcases open_slice Tryz.underlying37 hf with ⟨hcs,_⟩ | ⟨a,l,c,m,n,D,Pl,hcs,_,hl,hcm,hm,hx,hi⟩
 · simp at hcs
   obtain ⟨rfl,rfl,rfl⟩:=hcs
   exact ⟨[],Rd.nil _ _,by simp,rfl,fun _=>by simp⟩
 · simp at hcs
   obtain ⟨rfl,rfl,rfl⟩:=hcs
   rw [show Tryz.prog.cellsOf 49=10 from by kernel_rfl] at hi
   have hml:len≤m:=by rw [hm]; split <;> omega
   have hel:∀ i,i < len→∃ o:TOp,o.inn W∧∀ j u,(topE.enc o)[j]? = some u→W.cell? (a.add (i * 10 + j))=some u:=by
    intro i hil
    obtain ⟨cs',hc,ht⟩:=hi i (by omega)
    obtain ⟨o,rfl,ho⟩:=top_of ht
    obtain ⟨_,hcl,hat⟩:=World.cells?_some hc
    refine ⟨o,ho,fun j u hu=>?_⟩
    have hj:j < 10:=(List.getElem?_eq_some_iff.1 hu).1
    rw [← Go.Deep.add_add,hat j hj,hu]
   obtain ⟨g,hg⟩:∃ g:Nat→TOp,∀ i,i < len→(g i).inn W∧∀ j u,(topE.enc (g i))[j]? = some u→W.cell? (a.add (i * 10 + j))=some u :=
    ⟨fun i=>if h:i < len then Classical.choose (hel i h) else ⟨0,⟨⟨#[]⟩,0,⟨#[]⟩,none,0,0,0,0,false,0,none,0,0⟩,[],[]⟩,fun i h=>by simp only [h,dif_pos]; exact Classical.choose_spec (hel i h)⟩
   have hln:((List.range len).map g).length=len:=by simp
   refine ⟨(List.range len).map g,⟨some a,cap,by rw [hln],by rw [hln]; exact hl,fun hne=>?_⟩,fun y hy=>?_,hln,fun hw=>?_⟩
   · obtain ⟨b,off,s⟩:=a
     have hlen:0 < len:=by
      rcases Nat.eq_zero_or_pos len with h0 | h0
      · subst h0; simp at hne
      · exact h0
     have hs0:=(hg 0 hlen).2 0 _ rfl
     rw [Nat.zero_mul] at hs0
     obtain rfl:=spot_none0 hs0
     refine ⟨b,off,rfl,fun i x hx j u hu=>?_⟩
     have hil:i < len:=by
      have:=(List.getElem?_eq_some_iff.1 hx).1
      rwa [hln] at this
     rw [List.getElem?_map,List.getElem?_range hil] at hx
     simp only [Option.map_some,Option.some.injEq] at hx
     subst hx
     have h1:=(hg i hil).2 j u hu
     rwa [Addr.add_lit] at h1
   · obtain ⟨i,hi2,rfl⟩:=List.mem_map.1 hy
     exact (hg i (List.mem_range.1 hi2)).1
   · rw [hx] at hw
     unfold DataW.weights at hw
     rw [Tryz.underlying37] at hw
     simp only [List.all_cons,Bool.and_eq_true,decide_eq_true_eq,List.length_map,List.length_range,op_bytes] at hw
     have h1:=hw.1
     have h2:len * 120≤(len + (m - len)) * 120:=Nat.mul_le_mul_right _ (Nat.le_add_right _ _)
     omega
theorem open_tops {H:Type} {enc:TypeId × Value→H} {W:World} {base:Nat} {v:Value} {d:DataW H} {p:List MemPlace}
 (hv:Value.okWide Tryz.prog W .any base 37 v) (h:DataW.Trod enc Tryz.prog W 0 (fun _=>true) true 37 v d p) (hs:(d.weights Tryz.prog 37).all (·≤reachBytes)=true) :
 ∃ (A:Option Addr) (c:Nat) (l:List TOp),v=.slice A l.length c∧Rd topE W (.slice A l.length c) l∧(∀ y ∈ l,y.inn W)∧l.length * 120≤140737488351232:=by
 obtain ⟨a0,len0,cap0,rfl⟩:=okWide_slice Tryz.underlying37 hv
 obtain ⟨fuel,hf⟩:=h
 obtain ⟨l,h1,h2,h3,h4⟩:=tops_of hf
 have h5:=h4 hs
 subst h3
 exact ⟨a0,cap0,l,rfl,h1,h2,h5⟩
end Go.Proofs.YtliimglbbiebiaaGreatDoor
end

