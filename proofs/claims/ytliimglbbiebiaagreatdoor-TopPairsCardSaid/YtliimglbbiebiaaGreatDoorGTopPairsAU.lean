/- A part of the proof: StOps6, Op1, Op3, Char3. -/
import Derived.Test.YtliimglbbiebiaaGreatDoorGTopPairsAQ
import Derived.Test.YtliimglbbiebiaaGreatDoorGTopPairsAT
import Derived.Test.YtliimglbbiebiaaGreatDoorGTopPairsAK
import Derived.Laws.IdiomStrings
import Derived.StillTailTactics
set_option maxRecDepth 100000
set_option maxHeartbeats 6400000
section
namespace Go.Proofs.YtliimglbbiebiaaGreatDoor
open Go.RowKit Go.Maps
def exM (M:List Msg) (L:List Int):List Msg:=M.filter fun m=>decide (m.uid ∉ L)
theorem exM_nil (M:List Msg):exM M []=M:=by
 unfold exM
 rw [List.filter_eq_self]
 simp
theorem exM_snoc (M:List Msg) (L:List Int) (u:Int):exM M (L ++ [u])=remM (exM M L) u:=by
 unfold exM remM
 rw [List.filter_filter]
 refine List.filter_congr fun m _=>?_
 rw [← Bool.decide_and]
 refine decide_eq_decide.2 ?_
 rw [List.mem_append,List.mem_singleton]
 constructor
 · intro h
   exact ⟨fun e=>h (.inr e),fun e=>h (.inl e)⟩
 · rintro ⟨h1,h2⟩ (h | h)
   · exact h2 h
   · exact h1 h
theorem withL_mem {M:List Msg} {f u:Int}:u ∈ withL M f ↔ ∃ m ∈ M,andI m.fl f=f∧m.uid=u:=by
 unfold withL
 rw [List.mem_map]
 constructor
 · rintro ⟨m,hm,rfl⟩
   have:=List.mem_filter.1 hm
   exact ⟨m,this.1,by simpa using this.2,rfl⟩
 · rintro ⟨m,hm,h1,rfl⟩
   exact ⟨m,List.mem_filter.2 ⟨hm,by simpa using h1⟩,rfl⟩
theorem withL_asc {M:List Msg} (f:Int) (h:Asc (M.map Msg.uid)):Asc (withL M f):=by
 unfold withL
 exact List.Pairwise.sublist (List.Sublist.map _ List.filter_sublist) h
theorem mergeSort_asc {l:List Int} (h:Asc l):(l.mergeSort fun x y=>decide (x≤y))=l :=
 List.mergeSort_of_pairwise (h.imp fun h=>by simp; omega)
theorem uid_inj_msg {M:List Msg} (h:(M.map Msg.uid).Nodup) {a b:Msg} (ha:a ∈ M) (hb:b ∈ M) (he:a.uid=b.uid):a=b:=by
 have h1:=findM_of_mem h ha
 have h2:=findM_of_mem h hb
 rw [he,h2] at h1
 injection h1 with h1
 exact h1.symm
def leftM (M:List Msg):List Msg:=M.filter fun m=>!decide (andI m.fl 4=4)
theorem exM_with {M:List Msg} (h:(M.map Msg.uid).Nodup):exM M (withL M 4)=leftM M:=by
 unfold exM leftM
 refine List.filter_congr fun m hm=>?_
 rw [← decide_not]
 refine decide_eq_decide.2 ?_
 rw [withL_mem]
 constructor
 · intro h1 h2
   exact h1 ⟨m,hm,h2,rfl⟩
 · rintro h1 ⟨m',hm',h2,h3⟩
   exact h1 (uid_inj_msg h hm' hm h3 ▸ h2)
structure ExR (w0 w wr:World) (base:Nat) (S:Sx) (Q:Qs) (M:List Msg) (l:List Int) (n t f:Int) (o:Value) (j:Nat) (Sj:Sx) (Qj:Qs):Prop where
 st:STX w0 base wr Sj Qj (exM M (l.take j)) n t f
 stp:Stp w wr S Q Sj Qj
 ids:Qj.ids=Q.ids
 ev:∀ i,Qj.l i=Q.l i ++ (l.take j).map fun u=>⟨2,u,0⟩
 row:Own (intE .u32) 28 w.heap.size wr o l
 far:∀ g,o.ownBlock=some g→¬ Sj.foot Qj g
section
variable {w0 w:World} {base:Nat} {S:Sx} {Q:Qs} {M:List Msg} {n t f:Int}
theorem sexpunge_any (h:STX w0 base w S Q M n t f) (hQ:∀ i ∈ Q.ids,(Q.l i).length + M.length≤100000000) :
 Calls Tryz.prog 100 #[.pointer (some ⟨S.s,0,none⟩)] w fun e w'=>∃ A c S' Q',e=.returned (.slice A (withL M 4).length c)∧Own (intE .u32) 28 w.heap.size w' (.slice A (withL M 4).length c) (withL M 4) ∧
  STX w0 base w' S' Q' (leftM M) n t f∧Stp w w' S Q S' Q'∧Q'.ids=Q.ids∧(∀ i,Q'.l i=Q.l i ++ (withL M 4).map fun u=>⟨2,u,0⟩)∧∀ g,Value.ownBlock (.slice A (withL M 4).length c)=some g→¬ S'.foot Q' g:=by
 obtain ⟨X,hXm,hX⟩:=h.tbl
 have e0:w.cell? ⟨S.s,0,none⟩=some (.pointer (some ⟨S.T.tb,0,none⟩)):=h.hd.cell 0
 have hml:=h.mlen
 have hXl:X.length≤100000:=by rw [← hXm,List.length_map] at hml; omega
 have hw:=twith_any hX hXl 4 (by omega)
 rw [hXm,mergeSort_asc (withL_asc 4 h.asc)] at hw
 have hex:=exM_with h.nd
 have HLU:Hid (∀ u ∈ withL M 4,0≤u∧u≤4294967295):=Lib.hid (fun u hu=>by
  obtain ⟨m,hm,_,rfl⟩:=withL_mem.1 hu
  have:=(h.ok m hm).1.1
  omega)
 have hll:(withL M 4).length≤M.length:=by unfold withL; rw [List.length_map]; exact List.length_filter_le _ _
 obtain ⟨l,hl⟩:∃ l,withL M 4=l:=⟨_,rfl⟩
 rw [hl] at hw hex HLU hll ⊢
 have HW:=Lib.hid hw
 have HEX:=Lib.hid hex
 have HX:=Lib.hid hXm
 have H:=Lib.hid h
 have HQ:=Lib.hid hQ
 have HE:=Lib.hid (enters _ _ _ Tryz.func135 (by kernel_rfl) rfl)
 clear h hX hXm hw hex hl hQ hXl
 go_enter Tryz.func100,Tryz.ntmps100
 go_wp2_with fail
 refine HW.out.mono ?_
 rintro e w2 ⟨o,rfl,ho,hT2,hf2⟩
 obtain ⟨A,c,rfl,_⟩:=ho.form
 have HR0:Hid (ExR w0 w w2 base S Q M l n t f (.slice A l.length c) 0 S Q):=Lib.hid ⟨by rw [List.take_zero,exM_nil]; exact H.out.turnT rfl ⟨X,HX.out,hT2⟩ hf2,STX.stpT hf2,rfl,fun i=>by simp,ho,fun g hg hs=>by
  have h1:=(ho.block hg).1
  have h2:=H.out.foot_lt hs
  omega⟩
 clear ho hT2 hf2
 go_wp2
 go_loopw [16] (fun vi wr=>∃ (j:Nat) (Sj:Sx) (Qj:Qs),vi=.int .i64 j∧j≤l.length∧Hid (ExR w0 w wr base S Q M l n t f (.slice A l.length c) j Sj Qj)) (fun vi _=>l.length - (intOf vi).toNat)
 case atStart=>exact ⟨0,S,Q,rfl,Nat.zero_le _,HR0.out⟩
 case round =>
  obtain ⟨j,Sj,Qj,rfl,hj,HR⟩:=hrel
  clear HR0
  by_cases hlt:j < l.length
  · have hd:decide ((j:Int) < l.length)=true:=decide_eq_true (by omega)
    obtain ⟨u,hu⟩:∃ u,l[j]? = some u:=⟨_,List.getElem?_eq_getElem hlt⟩
    have hub:=HLU.out u (List.mem_of_getElem? hu)
    obtain ⟨g,rfl⟩:=HR.out.row.some_ (by omega)
    have hc:wr.cell? ⟨g,j,none⟩=some (.int .u32 u):=by have:=HR.out.row.cell_at hu (j:=0) (u:=.int .u32 u) rfl; simpa [intE] using this
    have hjI:(j:Int) < l.length:=by omega
    have hw1:IntKind.i64.wrap ((j:Int) + 1)=(j:Int) + 1:=IntWalk.i64_in _ (by omega)
    have HTK:=Lib.hid (take_snoc hu)
    have HSS:Hid (Sj.s=S.s):=Lib.hid HR.out.stp.s
    have hdr:=sdrop_any HR.out.st u hub.1 hub.2
    have HPS:Hid (Value.pointer (some ⟨Sj.s,0,none⟩)=.pointer (some ⟨S.s,0,none⟩)):=Lib.hid (by rw [HSS.out])
    rw [HPS.out,← exM_snoc,← HTK.out] at hdr
    have HDR:=Lib.hid hdr
    clear hdr hu
    go_wp2_with fail
    refine HDR.out.mono ?_
    rintro e w3 ⟨rfl,u',hS3,hp3⟩
    have hgl:g < wr.heap.size:=(HR.out.row.block (b:=g) rfl).2
    have hfar:=HR.out.far g rfl
    have hwf:(⟨2,u,0⟩:Ev).wf:=⟨(by decide:(Lit.int .i64 2).wf=true),okU hub.1 hub.2,(by decide:(Lit.int .u8 0).wf=true)⟩
    have hte:=tell_any hS3.hd hS3.qx (fun i hi=>by
     rw [HR.out.ev i,List.length_append,List.length_map,List.length_take]
     rw [HR.out.ids] at hi
     have:=HQ.out i hi
     omega) ⟨2,u,0⟩ hwf (by simp) 135 #[] (fun _=>true) HE.out (fun W i _=>by have:=everyone_any i W; simpa using this)
    simp only [Ev.val] at hte
    rw [HPS.out] at hte
    have HTE:=Lib.hid hte
    have HS3:=Lib.hid hS3
    have HP3:=Lib.hid hp3
    have hrow3:=HR.out.row.fr hp3.fr (fun b hb=>HR.out.far b hb)
    have HROW3:=Lib.hid hrow3
    clear hte hS3 hp3 hwf hrow3
    go_wp2_with fail
    refine HTE.out.mono ?_
    rintro e w4 ⟨rfl,v',hq4,hf4,hv4⟩
    have hp4:=told_stp (S:={ Sj with u:=u' }) (p:=fun _=>true) (ev:=⟨2,u,0⟩) hf4 hv4
    have hfar3:=HP3.out.far hgl hfar
    have hfar4:¬ Sx.foot { Sj with u:=u' } (Qj.told (fun _=>true) ⟨2,u,0⟩ v') g:=hp4.far (Nat.lt_of_lt_of_le hgl HP3.out.fr.size) hfar3
    have HR4:Hid (ExR w0 w w4 base S Q M l n t f (.slice (some ⟨g,0,none⟩) l.length c) (j + 1) { Sj with u:=u' } (Qj.told (fun _=>true) ⟨2,u,0⟩ v')):=Lib.hid ⟨HS3.out.told hq4 hf4 hv4,(HR.out.stp.trans HP3.out).trans hp4,HR.out.ids,fun i=>by
     rw [HTK.out,List.map_append,← List.append_assoc,← HR.out.ev i]
     rfl,HROW3.out.fr hp4.fr (fun b hb=>by cases hb; exact hfar3),fun b hb=>by cases hb; exact hfar4⟩
    clear hq4 hf4 hv4 hp4 hfar3 hfar4
    go_wp2
    go_roundw
    case rel=>exact ⟨j + 1,_,_,by go_num,by omega,HR4.out⟩
    case measure=>simp [intOf]; omega
  · have hd:decide ((j:Int) < l.length)=false:=decide_eq_false (by omega)
    have ht:l.take j=l:=List.take_of_length_le (by omega)
    have HT:=Lib.hid ht
    clear ht
    go_wp2
    go_ret
    refine ⟨A,c,Sj,Qj,rfl,HR.out.row,?_,HR.out.stp,HR.out.ids,fun i=>?_,HR.out.far⟩
    · have h1:=HR.out.st
      rw [HT.out,HEX.out] at h1
      exact h1
    · have h1:=HR.out.ev i
      rw [HT.out] at h1
      exact h1
theorem append_stp {w w':World} {u':Value} {ev:Ev} {p:Int→Bool} {v':Int→Value} (hf:Fr (S.foot Q) w w') (hu:Stays w S.u u') (hv:∀ i ∈ Q.ids,Stays w (Q.v i) (v' i)):Stp w w' S Q { S with u:=u' } (Q.told p ev v') :=
 ⟨hf,fun k hk=>by
   rcases told_gr (S:={ S with u:=u' }) hv k hk with h1 | h1
   · exact Sx.foot_upd h1 hu
   · exact .inr h1,rfl,rfl⟩
end
end Go.Proofs.YtliimglbbiebiaaGreatDoor
end

section
namespace Go.Proofs.YtliimglbbiebiaaGreatDoor
open Go.RowKit Go.Maps
section
variable {w0 W w w' w'':World} {base:Nat} {S S':Sx} {Q Q':Qs} {M M':List Msg} {n t f n' t' f':Int} {i:Int} {xs:Nat} {o o':Vo} {m d:Nat} {R:Nat→Prop} {b b':Bool} {bs OB:Nat} {vo vo':Value} {lo lo':List Rsp}
theorem OpS.blk (k:OpS w w' S Q n i xs o m d R S' Q' n' o') (H:SO w0 base w S Q M n t f i xs o b) {g:Nat} {ty:TypeId} {cs:Array Value} (hb:Blk w g ty cs) (hg:base≤g) (hR:¬ R g)
 (h1:ty≠94∧ty≠155∧ty≠351∧ty≠232∧ty≠98∧ty≠111∧ty≠163∧ty≠28):Blk w' g ty cs :=
 k.fr.blk hb fun hk=>by
  rcases hk with hk | hk | hk
  · exact H.st.not_foot hb hg h1.1 h1.2.1 h1.2.2.2.2.2.2.1 h1.2.2.2.2.2.2.2 h1.2.2.1 h1.2.2.2.1 hk
  · exact H.not_mine hb h1.2.2.2.2.1 h1.2.2.2.2.2.1 h1.2.2.2.2.2.2.1 h1.2.2.2.2.2.2.2 hk
  · exact hR hk
theorem OutI.ops (h:OutI bs OB vo lo w) (k:OpS w w' S Q n i xs o m d (fun _=>False) S' Q' n' o') (H:SO w0 base w S Q M n t f i xs o b) (hbb:base≤bs) (hOB:base≤OB):OutI bs OB vo lo w' :=
 h.fr k.fr fun g ty cs hb hg ht hk=>by
  have hg':base≤g:=by omega
  rcases hk with hk | hk | hk
  · rcases ht with rfl | rfl | rfl <;> exact H.st.not_foot hb hg' (by decide) (by decide) (by decide) (by decide) (by decide) (by decide) hk
  · rcases ht with rfl | rfl | rfl <;> exact H.not_mine hb (by decide) (by decide) (by decide) (by decide) hk
  · exact hk
theorem add_so (H:SO w0 base w S Q M n t f i xs o b) (ho:OutI bs OB vo lo w) {r:Value} {lr:List Rsp} (hr:Rd rspE w r lr) (hk:∀ x ∈ lr,RspOk bs w x) (hl:lo.length + lr.length≤1000000000) (hbs:bs≤w.heap.size) (hbb:base≤bs) (hbw:w0.heap.size≤bs) (hOB:base≤OB) (hOw:w0.heap.size≤OB) :
 Calls Tryz.prog 39 #[r,.pointer (some ⟨OB,0,none⟩)] w fun e w'=>e=.returned (.tuple #[])∧∃ vo',OutI bs OB vo' (lo ++ lr) w'∧SO w0 base w' S Q M n t f i xs o b∧Fr (fun k=>k=OB∨vo.ownBlock=some k) w w'∧∀ k,vo'.ownBlock=some k→vo.ownBlock=some k∨w.heap.size≤k:=by
 refine (add_rsp OB bs r vo lo lr w ho.b ho.r hr hl hbs).mono ?_
 rintro e w' ⟨rfl,vo',hb',hr',hf,hs⟩
 refine ⟨rfl,vo',ho.add hk hb' hr' hf,H.apart hf fun k hk _=>?_,hf,fun k hk=>?_⟩
 · rcases hk with rfl | hk
   · exact ⟨hOB,hOw,_,.inl ho.b⟩
   · obtain ⟨cs,hcs⟩:=ho.r.heap hk
     have:=(ho.r.block hk).1
     exact ⟨by omega,by omega,cs,.inr (.inl hcs)⟩
 · rcases hs with e1 | ⟨g,e1,e2⟩
   · rw [e1] at hk
     exact .inl hk
   · rw [e1] at hk
     injection hk with hk
     exact .inr (by omega)
theorem opr_fin {cs:Array Value} {g:Nat} (H:SO w0 base w S' Q' M' n' t' f i xs o' b') (k:OpS W w S Q n i xs o m d (fun k=>k=OB∨vo.ownBlock=some k) S' Q' n' o') (hm:m≤5000) (hd:d≤1) (ho:OutI bs OB vo' lo' w) (hg:Blk w g 108 cs) (hgW:W.heap.size≤g) (hbW:base≤W.heap.size) (hwW:w0.heap.size≤W.heap.size)
 (one:One g w w'') (st:Int) (tx:ByteArray) (hst:(0≤st∧st≤2)∧tx.size≤300) (hr:∀ r ∈ lo',r ∈ lo∨GoodR o' r) (hl:lo'.length≤lo.length + 200000000) :
 OpR w0 base W w'' S Q n f i xs o bs OB vo lo (.returned (.agg #[.int .i64 st,.string tx])):=by
 have H2:=H.apart one fun k hk _=>by
  have e:k=g:=hk
  subst e
  exact ⟨by omega,by omega,_,.inr (.inr hg)⟩
 refine ⟨st,tx,vo',lo',S',Q',M',n',t',o',b',rfl,hst,ho.one one hg (by decide) (by decide) (by decide),H2,(k.trans (OpS.side one) fun k e=>?_).weak (by omega) (by omega) fun _ _ h=>h,hr,hl⟩
 have e:k=g:=e
 exact .inr (by omega)
theorem boxes (W:World) (c:Cmd):∃ WA,WA=((W.alloc (.cells #[.string c.t,.int .i64 c.k,.string c.m,.slice c.sA c.sn c.sc,.int .i64 c.it,.int .i64 c.mo,.bool c.si,.int .u8 c.fl,.slice c.dA c.dn c.dc] 47)).alloc (.cells #[.int .i64 0,.string ⟨#[]⟩] 108))∧New W WA ∧
 Blk WA W.heap.size 47 #[.string c.t,.int .i64 c.k,.string c.m,.slice c.sA c.sn c.sc,.int .i64 c.it,.int .i64 c.mo,.bool c.si,.int .u8 c.fl,.slice c.dA c.dn c.dc]∧Blk WA (W.heap.size + 1) 108 #[.int .i64 0,.string ⟨#[]⟩] :=
 ⟨_,rfl,((New.refl W).alloc _).alloc _,(Blk.new _ _ _).alloc _,Blk.new1 _ _ _ _⟩
theorem xnoop_any (H0:SO w0 base W S Q M n t f i xs o false) (hn:n≤5000) (hQ:∀ j ∈ Q.ids,(Q.l j).length≤90000000) (c:Cmd) (ho:OutI bs OB vo lo W) (hlo:lo.length≤1000) (hbb:base≤bs) (hbw:w0.heap.size≤bs) (hbs:bs≤W.heap.size) (hOB:base≤OB) (hOw:w0.heap.size≤OB) :
 Calls Tryz.prog 65 #[.pointer (some ⟨xs,0,none⟩),c.val,addV OB] W fun e W'=>OpR w0 base W W' S Q n f i xs o bs OB vo lo e:=by
 obtain ⟨WA,hWA,nA,cA,rA⟩:=boxes W c
 have HA:=H0.new nA
 have hWb:=H0.st.hb
 have hW0:=H0.st.new.size
 have hoA:=ho.new nA
 have HF:=Lib.hid (flush_so HA true (by omega) fun j hj=>by have:=hQ j hj; omega)
 have H:=Lib.hid (And.intro HA (And.intro hoA (And.intro rA nA)))
 clear H0 HA ho hoA rA cA hQ nA
 go_enter Tryz.func65,Tryz.ntmps65
 go_wp2_with fail
 rw [← hWA]
 clear hWA
 refine HF.out.mono ?_
 rintro e w1 ⟨r1,lr,rfl,hown,hp,hll,Q1,o1,H1,k1,_⟩
 have ho1:=H.out.2.1.ops k1 H.out.1 hbb hOB
 have R1:=k1.blk H.out.1 H.out.2.2.1 (by omega) id (by decide)
 have hsA:=H.out.2.2.2.size
 have hs1:=k1.fr.size
 have HAD:=Lib.hid (add_so H1 ho1 hown.rd (fun x hx=>(hp x hx).2.mono (by omega)) (by omega) (by omega) hbb hbw hOB hOw)
 have HH:=Lib.hid (And.intro H1 (And.intro ho1 (And.intro k1 (And.intro R1 hp))))
 clear H1 ho1 k1 R1 hp hown HF
 go_wp2_with fail
 refine HAD.out.mono ?_
 rintro e w2 ⟨rfl,vo2,ho2,H2,f2,_⟩
 have R2:=f2.blk HH.out.2.2.2.1 (by
  rintro (e | e)
  · exact HH.out.2.2.2.1.ne_ HH.out.2.1.b (by decide) e
  · exact HH.out.2.1.r.ne_blk HH.out.2.2.2.1 (by decide) e)
 have c0:w2.cell? ⟨W.heap.size + 1,0,none⟩=some (.int .i64 0):=R2.cell 0
 have c1:w2.cell? ⟨W.heap.size + 1,1,none⟩=some (.string ⟨#[]⟩):=R2.cell 1
 have ff:=R2.froz
 go_wp2
 refine bodyPost_ret (results_cell1 rfl _ _ rfl (loadOut (R2.over2 (.int .i64 0) (.string noopS)))) rfl ?_
 have one:=One.over2 w2 (W.heap.size + 1) (.int .i64 0) (.string noopS)
 have g1:OpS W w2 S Q n i xs o (0 + 0 + 0) (0 + 0 + 0) (fun k=>k=OB∨vo.ownBlock=some k) S Q1 n o1:=((OpS.refl H.out.2.2.2).trans HH.out.2.2.1 fun _ h=>h.elim).trans (OpS.side f2) fun _ h=>.inl h
 refine opr_fin H2 g1 (by omega) (by omega) ho2 R2 (by omega) hWb hW0 one 0 noopS ⟨by omega,by decide⟩ (fun r hr=>?_) (by rw [List.length_append]; omega)
 exact (List.mem_append.1 hr).imp id fun h=>.inl (HH.out.2.2.2.2 r h).1
theorem end_so (H0:SO w0 base w S Q M n t f i xs o false) :
 Calls Tryz.prog 89 #[.pointer (some ⟨xs,0,none⟩)] w fun e w'=>e=.returned (.tuple #[])∧∃ Q',SN w0 base w' S Q' M n t f i xs true∧OpS w w' S Q n i xs o 0 0 (fun _=>False) S Q' n none∧Q'.ids.length≤Q.ids.length:=by
 have hx:=H0.ses.lt
 have HL:=Lib.hid (leave_any H0)
 clear H0
 go_enter Tryz.func89,Tryz.ntmps89
 go_wp2_with fail
 refine HL.out.mono ?_
 rintro e w1 ⟨rfl,Q1,H1,k1,hq1⟩
 have z3:=H1.ses.frozen 3
 have c3:w1.cell? ⟨xs,3,none⟩=some (.bool false):=H1.ses.cell 3
 have K1:=Lib.hid (And.intro H1 (And.intro k1 hq1))
 clear H1 k1 hq1
 go_wp2
 go_end0
 have one:One xs w1 (w1.setCell ⟨xs,3,none⟩ (.bool true)):=(One.refl xs w1).set 3 _
 have hs:=K1.out.1.ses
 refine ⟨rfl,Q1,{ K1.out.1 with st:=K1.out.1.st.state hs K1.out.1.bx K1.out.1.lx one,ses:=hs.set_ 3 _ },?_,K1.out.2.2⟩
 exact K1.out.2.1.trans (m':=0) (d':=0) (R':=fun _=>False) { s:=rfl,cap:=rfl,fr:=one.mono fun k _ e=>.inr (.inl e),gr:=fun _ h=>.inl h,mg:=fun _ h=>.inl h,nn:=by omega,oth:=fun j _=>⟨Iff.rfl,[],by simp,by simp,by simp⟩,own:=by omega } fun _ h=>h.elim
def byeS:ByteArray:=⟨#[99,108,111,115,105,110,103]⟩
def logoutS:ByteArray:=⟨#[76,79,71,79,85,84,32,99,111,109,112,108,101,116,101,100]⟩
theorem RspOk.said (B:Nat) (w:World) (k:Int) (x:ByteArray) (hk:1≤k∧k≤10) (hx:x.size≤1000000):RspOk B w ⟨k,0,⟨#[]⟩,0,x,0,0,0,0,none,0,0⟩ :=
 have h2:(0:Int)≤0∧(0:Int)≤2:=by decide
 have h3:(0:Int)≤0∧(0:Int)≤31:=by decide
 have h4:(0:Int)≤0∧(0:Int)≤255:=by decide
 have h5:(0:Int)≤0∧(0:Int)≤4294967295:=by decide
 { kk:=hk,n0:=h5,t0:=Nat.zero_le _,x0:=hx,st0:=h2,it0:=h3,fl0:=h4,uid0:=h5,sz0:=h5,body:=⟨[],Own.nil _ _ _ _,Nat.zero_le _⟩ }
theorem xlogout_any (H0:SO w0 base W S Q M n t f i xs o false) (c:Cmd) (ho:OutI bs OB vo lo W) (hlo:lo.length≤1000) (hbb:base≤bs) (hbw:w0.heap.size≤bs) (hbs:bs≤W.heap.size) (hOB:base≤OB) (hOw:w0.heap.size≤OB) :
 Calls Tryz.prog 66 #[.pointer (some ⟨xs,0,none⟩),c.val,addV OB] W fun e W'=>OpR w0 base W W' S Q n f i xs o bs OB vo lo e:=by
 obtain ⟨WA,hWA,nA,cA,rA⟩:=boxes W c
 have HA:=H0.new nA
 have hWb:=H0.st.hb
 have hW0:=H0.st.new.size
 have hoA:=ho.new nA
 have HF:=Lib.hid (end_so HA)
 have H:=Lib.hid (And.intro HA (And.intro hoA (And.intro rA nA)))
 clear H0 HA ho hoA rA cA nA
 go_enter Tryz.func66,Tryz.ntmps66
 go_wp2_with fail
 rw [← hWA]
 clear hWA
 refine HF.out.mono ?_
 rintro e w1 ⟨rfl,Q1,H1,k1,_⟩
 have ho1:=H.out.2.1.ops k1 H.out.1 hbb hOB
 have R1:=k1.blk H.out.1 H.out.2.2.1 (by omega) id (by decide)
 have hsA:=H.out.2.2.2.size
 have hs1:=k1.fr.size
 have n1:New w1 (w1.alloc (.cells #[.int .i64 7,.int .u32 0,.string ⟨#[]⟩,.int .i64 0,.string byeS,.int .i64 0,.int .u8 0,.int .u32 0,.int .u32 0,.slice none 0 0] 53)):=(New.refl w1).alloc _
 have rd1:Rd rspE (w1.alloc (.cells #[.int .i64 7,.int .u32 0,.string ⟨#[]⟩,.int .i64 0,.string byeS,.int .i64 0,.int .u8 0,.int .u32 0,.int .u32 0,.slice none 0 0] 53)) (.slice (some ⟨w1.heap.size,0,none⟩) 1 1) [⟨7,0,⟨#[]⟩,0,byeS,0,0,0,0,none,0,0⟩]:=rd_one' (E:=rspE) (x:=⟨7,0,⟨#[]⟩,0,byeS,0,0,0,0,none,0,0⟩) (t:=53) (Blk.new _ _ _)
 have ho1n:=ho1.new n1
 have H1n:SO w0 base (w1.alloc (.cells #[.int .i64 7,.int .u32 0,.string ⟨#[]⟩,.int .i64 0,.string byeS,.int .i64 0,.int .u8 0,.int .u32 0,.int .u32 0,.slice none 0 0] 53)) S Q1 M n t f i xs none true:=SO.new (o:=none) H1 n1
 have HAD:=Lib.hid (add_so H1n ho1n rd1 (fun x hx=>by rw [List.mem_singleton.1 hx]; exact RspOk.said _ _ 7 byeS (by decide) (by decide)) (by simp; omega) (by rw [World.size_alloc]; omega) hbb hbw hOB hOw)
 have HH:=Lib.hid (And.intro ho1n (And.intro k1 (And.intro (n1.blk R1) n1)))
 clear H1 ho1 k1 R1 HF rd1 H1n ho1n n1
 go_wp2_with fail
 refine HAD.out.mono ?_
 rintro e w2 ⟨rfl,vo2,ho2,H2,f2,_⟩
 have R2:=f2.blk HH.out.2.2.1 (by
  rintro (e | e)
  · exact HH.out.2.2.1.ne_ HH.out.1.b (by decide) e
  · exact HH.out.1.r.ne_blk HH.out.2.2.1 (by decide) e)
 have c0:w2.cell? ⟨W.heap.size + 1,0,none⟩=some (.int .i64 0):=R2.cell 0
 have c1:w2.cell? ⟨W.heap.size + 1,1,none⟩=some (.string ⟨#[]⟩):=R2.cell 1
 have ff:=R2.froz
 go_wp2
 refine bodyPost_ret (results_cell1 rfl _ _ rfl (loadOut (R2.over2 (.int .i64 0) (.string logoutS)))) rfl ?_
 have one:=One.over2 w2 (W.heap.size + 1) (.int .i64 0) (.string logoutS)
 have g1:OpS W w2 S Q n i xs o (0 + 0 + 0 + 0) (0 + 0 + 0 + 0) (fun k=>k=OB∨vo.ownBlock=some k) S Q1 n none:=(((OpS.refl H.out.2.2.2).trans HH.out.2.1 fun _ h=>h.elim).trans (OpS.refl (R:=fun _=>False) HH.out.2.2.2) fun _ h=>h.elim).trans (OpS.side f2) fun _ h=>.inl h
 refine opr_fin H2 g1 (by omega) (by omega) ho2 R2 (by omega) hWb hW0 one 0 logoutS ⟨by omega,by decide⟩ (fun r hr=>?_) (by rw [List.length_append,List.length_singleton]; omega)
 refine (List.mem_append.1 hr).imp id fun h=>.inl ?_
 rw [List.mem_singleton.1 h]
 show bits .and .i64 0 2=0
 decide
theorem withL_ev (h:STX w0 base w S Q M n t f):∀ e ∈ ((withL M 4).map fun u=>(⟨2,u,0⟩:Ev)),EvOk n e:=fun e he=>by
 obtain ⟨u,hu,rfl⟩:=List.mem_map.1 he
 obtain ⟨m,hm,_,rfl⟩:=withL_mem.1 hu
 have h1:=(h.ok m hm).1.1
 have h2:=h.below m hm
 exact ⟨by dsimp only; omega,⟨by dsimp only; omega,h2⟩,by dsimp only; omega⟩
theorem SO.mlen (H:SO w0 base w S Q M n t f i xs o b) (_hn:n≤5000):M.length≤5000:=by
 have:=H.st.mlen
 omega
theorem sexpunge_so (H:SO w0 base w S Q M n t f i xs o b) (hn:n≤5000) (hQ:∀ j ∈ Q.ids,(Q.l j).length≤90000000) :
 Calls Tryz.prog 100 #[.pointer (some ⟨S.s,0,none⟩)] w fun e w'=>∃ A len c S' Q' M',e=.returned (.slice A len c)∧SO w0 base w' S' Q' M' n t f i xs o b∧OpS w w' S Q n i xs o 5000 0 (fun _=>False) S' Q' n o∧Q'.ids=Q.ids∧∀ j ∈ Q'.ids,(Q'.l j).length≤91000000:=by
 have hml:=H.mlen hn
 have hll:(withL M 4).length≤M.length:=by unfold withL; rw [List.length_map]; exact List.length_filter_le _ _
 have hev:=withL_ev H.st
 refine (sexpunge_any H.st fun j hj=>by have:=hQ j hj; omega).mono ?_
 rintro e w' ⟨A,c,S',Q',rfl,_,hst,hp,hid,hl,_⟩
 have hoth:∀ j,∃ L,Q'.l j=Q.l j ++ L∧L.length≤5000∧∀ e ∈ L,EvOk n e:=fun j=>⟨_,hl j,by rw [List.length_map]; omega,hev⟩
 refine ⟨A,_,c,S',Q',_,rfl,H.turn hst hp.s hp.fr (fun k hk=>H.far k hk) hp.gr (Int.le_refl _) (by rw [hid]) (fun e he=>?_),{ s:=hp.s,cap:=hp.cap,fr:=hp.fr.mono fun _ _ h=>.inl h,gr:=hp.gr,mg:=fun _ h=>.inl h,nn:=by omega,oth:=fun j _=>⟨by rw [hid],hoth j⟩,own:=?_ },hid,fun j hj=>?_⟩
 · rw [hl i] at he
   exact (List.mem_append.1 he).imp id (hev e)
 · rw [hl i,List.length_append,List.length_map]
   omega
 · rw [hid] at hj
   have:=hQ j hj
   rw [hl j,List.length_append,List.length_map]
   omega
def closeS:ByteArray:=⟨#[67,76,79,83,69,32,99,111,109,112,108,101,116,101,100]⟩
def expungeS:ByteArray:=⟨#[69,88,80,85,78,71,69,32,99,111,109,112,108,101,116,101,100]⟩
theorem xclose_any (H0:SO w0 base W S Q M n t f i xs o false) (hn:n≤5000) (hQ:∀ j ∈ Q.ids,(Q.l j).length≤90000000) (c:Cmd) (ho:OutI bs OB vo lo W) (_hlo:lo.length≤1000) (hbb:base≤bs) (_hbw:w0.heap.size≤bs) (_hbs:bs≤W.heap.size) (hOB:base≤OB) (_hOw:w0.heap.size≤OB) :
 Calls Tryz.prog 69 #[.pointer (some ⟨xs,0,none⟩),c.val,addV OB] W fun e W'=>OpR w0 base W W' S Q n f i xs o bs OB vo lo e:=by
 obtain ⟨WA,hWA,nA,cA,rA⟩:=boxes W c
 have HA:=H0.new nA
 have hWb:=H0.st.hb
 have hW0:=H0.st.new.size
 have hoA:=ho.new nA
 have HF:=Lib.hid (leave_any HA)
 have H:=Lib.hid (And.intro HA (And.intro hoA (And.intro rA (And.intro nA hQ))))
 clear H0 HA ho hoA rA cA nA hQ
 go_enter Tryz.func69,Tryz.ntmps69
 go_wp2_with fail
 rw [← hWA]
 clear hWA
 refine HF.out.mono ?_
 rintro e w1 ⟨rfl,Q1,H1,k1,_⟩
 have ho1:=H.out.2.1.ops k1 H.out.1 hbb hOB
 have R1:=k1.blk H.out.1 H.out.2.2.1 (by omega) id (by decide)
 have H1':SO w0 base w1 S Q1 M n t f i xs none false:=H1
 have hQ1:∀ j ∈ Q1.ids,(Q1.l j).length≤90000000:=fun j hj=>by
  by_cases hji:j=i
  · subst hji
    exact absurd hj H1.hi
  · obtain ⟨a1,L,a2,a3,_⟩:=k1.oth j hji
    have:=H.out.2.2.2.2 j (a1.1 hj)
    rw [a2,List.length_append]
    omega
 have HE:=Lib.hid (sexpunge_so H1' hn hQ1)
 have c0:w1.cell? ⟨xs,0,none⟩=some (.pointer (some ⟨S.s,0,none⟩)):=H1.ses.cell 0
 have HH:=Lib.hid (And.intro H1' (And.intro ho1 (And.intro k1 R1)))
 clear H1 H1' ho1 k1 R1 hQ1 HF
 go_wp2_with fail
 refine HE.out.mono ?_
 rintro e w2 ⟨A,len,cc,S2,Q2,M2,rfl,H2,k2,_,_⟩
 have ho2:=HH.out.2.1.ops k2 HH.out.1 hbb hOB
 have R2:=k2.blk HH.out.1 HH.out.2.2.2 (by omega) id (by decide)
 have c0:w2.cell? ⟨W.heap.size + 1,0,none⟩=some (.int .i64 0):=R2.cell 0
 have c1:w2.cell? ⟨W.heap.size + 1,1,none⟩=some (.string ⟨#[]⟩):=R2.cell 1
 have ff:=R2.froz
 have K2:=Lib.hid (And.intro H2 k2)
 clear H2 k2 HE
 go_wp2
 refine bodyPost_ret (results_cell1 rfl _ _ rfl (loadOut (R2.over2 (.int .i64 0) (.string closeS)))) rfl ?_
 have one:=One.over2 w2 (W.heap.size + 1) (.int .i64 0) (.string closeS)
 have g1:OpS W w2 S Q n i xs o (0 + 0 + 5000) (0 + 0 + 0) (fun k=>k=OB∨vo.ownBlock=some k) S2 Q2 n none:=((OpS.refl H.out.2.2.2.1).trans HH.out.2.2.1 fun _ h=>h.elim).trans K2.out.2 fun _ h=>h.elim
 exact opr_fin K2.out.1 g1 (by omega) (by omega) ho2 R2 (by omega) hWb hW0 one 0 closeS ⟨by omega,by decide⟩ (fun r hr=>.inl hr) (by omega)
theorem xexpunge_any (H0:SO w0 base W S Q M n t f i xs o false) (hn:n≤5000) (hQ:∀ j ∈ Q.ids,(Q.l j).length≤90000000) (c:Cmd) (ho:OutI bs OB vo lo W) (hlo:lo.length≤1000) (hbb:base≤bs) (hbw:w0.heap.size≤bs) (hbs:bs≤W.heap.size) (hOB:base≤OB) (hOw:w0.heap.size≤OB) :
 Calls Tryz.prog 70 #[.pointer (some ⟨xs,0,none⟩),c.val,addV OB] W fun e W'=>OpR w0 base W W' S Q n f i xs o bs OB vo lo e:=by
 obtain ⟨WA,hWA,nA,cA,rA⟩:=boxes W c
 have HA:=H0.new nA
 have hWb:=H0.st.hb
 have hW0:=H0.st.new.size
 have hoA:=ho.new nA
 have HE:=Lib.hid (sexpunge_so HA hn hQ)
 have k0':WA.cell? ⟨xs,0,none⟩=some (.pointer (some ⟨S.s,0,none⟩)):=HA.ses.cell 0
 rw [hWA] at k0'
 have H:=Lib.hid (And.intro HA (And.intro hoA (And.intro rA nA)))
 clear H0 HA ho hoA rA cA nA hQ
 go_enter Tryz.func70,Tryz.ntmps70
 go_wp2_with fail
 rw [← hWA]
 clear hWA k0'
 refine HE.out.mono ?_
 rintro e w1 ⟨A,len,cc,S1,Q1,M1,rfl,H1,k1,_,hQ1⟩
 have ho1:=H.out.2.1.ops k1 H.out.1 hbb hOB
 have R1:=k1.blk H.out.1 H.out.2.2.1 (by omega) id (by decide)
 have hsA:=H.out.2.2.2.size
 have hs1:=k1.fr.size
 have HF:=Lib.hid (flush_so H1 true (by omega) fun j hj=>by have:=hQ1 j hj; omega)
 have HH:=Lib.hid (And.intro H1 (And.intro ho1 (And.intro k1 R1)))
 clear H1 ho1 k1 R1 hQ1 HE
 go_wp2_with fail
 refine HF.out.mono ?_
 rintro e w2 ⟨r2,lr,rfl,hown,hp,hll,Q2,o2,H2,k2,_⟩
 have ho2:=HH.out.2.1.ops k2 HH.out.1 hbb hOB
 have R2:=k2.blk HH.out.1 HH.out.2.2.2 (by omega) id (by decide)
 have hs2:=k2.fr.size
 have HAD:=Lib.hid (add_so H2 ho2 hown.rd (fun x hx=>(hp x hx).2.mono (by omega)) (by omega) (by omega) hbb hbw hOB hOw)
 have HH2:=Lib.hid (And.intro ho2 (And.intro k2 (And.intro R2 hp)))
 clear H2 ho2 k2 R2 hp hown HF
 go_wp2_with fail
 refine HAD.out.mono ?_
 rintro e w3 ⟨rfl,vo3,ho3,H3,f3,_⟩
 have R3:=f3.blk HH2.out.2.2.1 (by
  rintro (e | e)
  · exact HH2.out.2.2.1.ne_ HH2.out.1.b (by decide) e
  · exact HH2.out.1.r.ne_blk HH2.out.2.2.1 (by decide) e)
 have c0:w3.cell? ⟨W.heap.size + 1,0,none⟩=some (.int .i64 0):=R3.cell 0
 have c1:w3.cell? ⟨W.heap.size + 1,1,none⟩=some (.string ⟨#[]⟩):=R3.cell 1
 have ff:=R3.froz
 go_wp2
 refine bodyPost_ret (results_cell1 rfl _ _ rfl (loadOut (R3.over2 (.int .i64 0) (.string expungeS)))) rfl ?_
 have one:=One.over2 w3 (W.heap.size + 1) (.int .i64 0) (.string expungeS)
 have g1:OpS W w3 S Q n i xs o (0 + 5000 + 0 + 0) (0 + 0 + 0 + 0) (fun k=>k=OB∨vo.ownBlock=some k) S1 Q2 n o2:=(((OpS.refl H.out.2.2.2).trans HH.out.2.2.1 fun _ h=>h.elim).trans HH2.out.2.1 fun _ h=>h.elim).trans (OpS.side f3) fun _ h=>.inl h
 refine opr_fin H3 g1 (by omega) (by omega) ho3 R3 (by omega) hWb hW0 one 0 expungeS ⟨by omega,by decide⟩ (fun r hr=>?_) (by rw [List.length_append]; omega)
 exact (List.mem_append.1 hr).imp id fun h=>.inl (HH2.out.2.2.2 r h).1
end
end Go.Proofs.YtliimglbbiebiaaGreatDoor
end

section
namespace Go.Proofs.YtliimglbbiebiaaGreatDoor
open Go.RowKit Go.Maps
section
variable {w0 W w w' w'':World} {base:Nat} {S S':Sx} {Q Q':Qs} {M M':List Msg} {n t f n' t' f':Int} {i:Int} {xs:Nat} {o o':Vo} {b b':Bool}
theorem vnew_any (vv:Value) (l:List Int) (hv:Rd (intE .u32) w vv l) (hl:l.length≤1000):Calls Tryz.prog 128 #[vv] w fun e w'=>∃ v x u,e=.returned (.pointer (some ⟨v,0,none⟩))∧VW w' v x false∧IdxU 0 w' x u (idxOf l)∧w.heap.size≤v∧w.heap.size≤x∧(∀ b,u.ownBlock=some b→w.heap.size≤b)∧New w w':=by
 have HN:=Lib.hid (qnew hv hl)
 clear hv
 go_enter Tryz.func128,Tryz.ntmps128
 go_wp2_with fail
 refine HN.out.mono ?_
 rintro e w1 ⟨x,u,rfl,hx,hb,n1⟩
 have HB:=Lib.hid hb
 clear hb
 go_wp2
 go_ret
 have n2:New w1 (w1.alloc (.cells #[.pointer (some ⟨x,0,none⟩),.bool false] 111)):=(New.refl w1).alloc _
 obtain ⟨h1,h2,h3⟩:=HB.out
 exact ⟨w1.heap.size,x,u,rfl,Blk.new _ _ _,IdxU.new ⟨h1,h2.mono (Nat.zero_le _),h3⟩ n2,n1.size,hx,fun b hb=>(h2.block hb).1,n1.trans n2⟩
theorem enter_so (H0:SN w0 base w S Q M n t f i xs false) (hq:Q.ids.length≤1000) (hc:S.cap≤1000) :
 Calls Tryz.prog 92 #[.pointer (some ⟨xs,0,none⟩)] w fun e w'=>e=.returned (.tuple #[])∧∃ Q' v x u l,SV w0 base w' S Q' M n t f i xs v x u l∧l.length≤1000∧OpS w w' S Q n i xs none 0 0 (fun _=>False) S Q' n (some (v,x,u,l)):=by
 obtain ⟨k0,k1,k2,k3⟩:=H0.ses.all4
 have hib:=H0.ib
 have hs:=H0.ses
 have hfx:=H0.fx
 have hbl:=And.intro H0.bx H0.lx
 have hlt:=H0.ses.lt
 have hst0:=H0.st.new.size
 have HB:=Lib.hid (And.intro H0.st.hb (And.intro H0.st.ok H0.st.below))
 have hML:(M.map Msg.uid).length≤1000:=by have:=H0.st.len; rw [List.length_map]; omega
 have HU:=Lib.hid (fun W (hn:New w W)=>ssub_any (H0.st.more hn) i (by omega) (by omega) H0.hi (by omega))
 clear H0
 go_enter Tryz.func92,Tryz.ntmps92
 go_wp2_with fail
 go_region_held3 (fun W=>W.cell? ⟨xs,0,none⟩=some (.pointer (some ⟨S.s,0,none⟩))∧W.cell? ⟨xs,1,none⟩=some (.int .i64 i)) (first | go_keep | (refine ⟨?_,?_⟩ <;> assumption)) ((first
  | (go_at_call 127
     refine (HU.out _ (by repeat' first | exact New.refl _ | apply Fr.alloc | apply Fr.drewN | apply Fr.drew)).mono ?_
     rintro e w2 ⟨A,c,b,rfl,ho,hst,hb,f2⟩
     have F2:Fr (S.foot Q) w w2:=Fr.trans (New.to (by repeat' first | exact New.refl _ | apply Fr.alloc | apply Fr.drewN | apply Fr.drew)) f2
     have hs2:=F2.blk hs hfx
     have p0:w2.cell? ⟨xs,0,none⟩=some (.pointer (some ⟨S.s,0,none⟩)):=hs2.cell 0
     have p1:w2.cell? ⟨xs,1,none⟩=some (.int .i64 i):=hs2.cell 1
     have HO:=Lib.hid ho.rd
     have HST:=Lib.hid hst
     have HF2:=Lib.hid F2
     have HBB:Hid (w.heap.size≤b):=Lib.hid hb
     clear ho hst f2 F2 hb)
  | fail))
 have HVN:=Lib.hid (vnew_any _ _ HO.out hML)
 go_wp2_with fail
 refine HVN.out.mono ?_
 rintro e w3 ⟨v,x,u,rfl,hv3,hi3,hlv,hlx',hlu,n3⟩
 have hs3:=n3.blk hs2
 have q2:w3.cell? ⟨xs,2,none⟩=some (.pointer none):=hs3.cell 2
 have z2:=hs3.frozen 2
 have HV3:=Lib.hid (And.intro hv3 (And.intro hi3 hlu))
 clear hv3 hi3 hlu
 go_wp2
 go_end0
 have hsz:=HF2.out.size
 have o3:One xs w3 (w3.setCell ⟨xs,2,none⟩ (.pointer (some ⟨v,0,none⟩))):=(One.refl xs w3).set 2 _
 have hst3:=HST.out.more n3
 have hlt2:∀ k,S.foot (Q.add i b) k→k < w2.heap.size:=fun k hk=>HST.out.foot_lt hk
 have hbase:=HB.out.1
 have h0u:∀ y ∈ M.map Msg.uid,0≤y∧y < n:=fun y hy=>by
  obtain ⟨m,hm,rfl⟩:=List.mem_map.1 hy
  have h1:=(HB.out.2.1 m hm).1.1
  exact ⟨by omega,HB.out.2.2 m hm⟩
 have hasc:=idxOf_asc _ fun y hy=>(h0u y hy).1
 have hill:=idxOf_len (M.map Msg.uid)
 have hlu:=HV3.out.2.2
 refine ⟨rfl,Q.add i b,v,x,u,idxOf (M.map Msg.uid),?_,by omega,?_⟩
 · exact {
    st:=hst3.state hs3 hbl.1 hbl.2 o3
    ses:=hs3.set_ 2 _
    vw:=o3.blk HV3.out.1 (HV3.out.1.ne_ hs3 (by decide))
    ix:=HV3.out.2.1.fr o3 (HV3.out.2.1.1.ne_ hs3 (by decide)) (fun b' hb' e=>by have:=hlu b' hb'; omega)
    asc:=hasc.1
    bd:=fun y hy=>h0u y ((hasc.2 y).1 hy).1
    bx:=hbl.1
    bv:=by omega
    nx:=fun hk=>by have:=hlt2 _ hk; omega
    nu:=fun g hg hk=>by have:=hlt2 _ hk; have:=hlu g hg; omega
    hi:=by simp [Qs.add]
    ib:=hib
    ev:=by simp [Qs.add]
    lx:=hbl.2
    lv:=by omega
    li:=by omega
    lu:=fun g hg=>by have:=hlu g hg; omega }
 · exact {
    s:=rfl
    cap:=rfl
    fr:=Fr.trans (Fr.trans (HF2.out.mono fun _ _ h=>.inl h) (New.to n3)) (o3.mono fun _ _ h=>.inr (.inl h))
    gr:=fun k hk=>Sx.add_foot HBB.out hk
    mg:=fun k hk=>by
     rcases (show k=xs∨k=v∨k=x∨u.ownBlock=some k from hk) with e | e | e | e
     · exact .inl e
     · exact .inr (by omega)
     · exact .inr (by omega)
     · exact .inr (by have:=hlu k e; omega)
    nn:=by omega
    oth:=fun j hj=>⟨by simp [Qs.add,hj],[],by simp [Qs.add,hj],by simp,by simp⟩
    own:=by simp [Qs.add] }
end
end Go.Proofs.YtliimglbbiebiaaGreatDoor
end

section
namespace Go.Proofs.YtliimglbbiebiaaGreatDoor
open Go.RowKit
def upU (c:UInt8):UInt8:=if 97≤c∧c≤122 then c - 32 else c
theorem upU_bits:∀ c:Fin 256,97≤c.val→c.val≤122→bits .andNot .u8 (c.val:Int) 32=(((upU (UInt8.ofNat c.val)).toNat:Nat):Int):=by decide +kernel
theorem upU_no:∀ c:Fin 256,(c.val < 97∨122 < c.val)→((c.val:Nat):Int)=(((upU (UInt8.ofNat c.val)).toNat:Nat):Int):=by decide +kernel
theorem upper2_any (c:UInt8) (w:World):Calls Tryz.prog 182 #[.int .u8 (c.toNat:Int)] w fun e w'=>e=.returned (.int .u8 ((upU c).toNat:Int))∧w=w':=by
 have hc:UInt8.ofNat c.toNat=c:=by simp
 have h1:=upU_bits ⟨c.toNat,c.toNat_lt⟩
 have h2:=upU_no ⟨c.toNat,c.toNat_lt⟩
 simp only [hc] at h1 h2
 have h3:97≤(c.toNat:Int)→(c.toNat:Int)≤122→bits .andNot .u8 (c.toNat:Int) 32=((upU c).toNat:Int):=fun ha hb=>h1 (by omega) (by omega)
 have h4:((c.toNat:Int) < 97∨122 < (c.toNat:Int))→(c.toNat:Int)=((upU c).toNat:Int):=fun h=>h2 (by omega)
 clear h1 h2 hc
 generalize (c.toNat:Int)=x at *
 generalize ((upU c).toNat:Int)=y at *
 by_cases h97:97≤x
 · by_cases h122:x≤122
   · have hb:=h3 h97 h122
     clear h3 h4
     go_enter Tryz.func182,Tryz.ntmps182
     go_wp2
     go_ret
     rw [← hb]
     exact ⟨rfl,rfl⟩
   · have hb:=h4 (by omega)
     subst hb
     clear h3 h4
     go_enter Tryz.func182,Tryz.ntmps182
     go_wp2
     go_ret
     exact ⟨rfl,rfl⟩
 · have hb:=h4 (by omega)
   subst hb
   clear h3 h4
   go_enter Tryz.func182,Tryz.ntmps182
   go_wp2
   go_ret
   exact ⟨rfl,rfl⟩
def BRow (w:World) (g:Nat) (l:List UInt8):Prop:=∀ i x,l[i]? = some x→w.cell? ⟨g,i,none⟩=some (.int .u8 (x.toNat:Int))∧w.frozen? ⟨g,i,none⟩=false
theorem BRow.set_ {w:World} {g:Nat} {l:List UInt8} (h:BRow w g l) (k:Nat) (y:UInt8):BRow (w.setCell ⟨g,k,none⟩ (.int .u8 (y.toNat:Int))) g (l.set k y):=by
 intro i x hx
 rw [World.frozen?_setCell]
 by_cases hik:k=i
 · subst hik
   have hl:k < (l.set k y).length:=(List.getElem?_eq_some_iff.1 hx).1
   rw [List.length_set] at hl
   rw [List.getElem?_set_self hl] at hx
   injection hx with hx
   subst hx
   obtain ⟨z,hz⟩:∃ z,l[k]? = some z:=⟨_,List.getElem?_eq_getElem hl⟩
   exact ⟨World.cell?_setCell_same _ _ _ (h k z hz).1,(h k z hz).2⟩
 · rw [List.getElem?_set_ne hik] at hx
   refine ⟨?_,(h i x hx).2⟩
   rw [World.cell?_setCell_other _ _ _ _ (fun e=>hik (Addr.mk.inj e).2.1)]
   exact (h i x hx).1
theorem upmid_len (l:List UInt8) (k:Nat) (h:k < l.length):((l.take k).map upU).length=k:=by
 rw [List.length_map,List.length_take]
 omega
theorem upmid_at (l:List UInt8) (k:Nat) (h:k < l.length):((l.take k).map upU ++ l.drop k)[k]? = some l[k]:=by
 rw [List.getElem?_append_right (by rw [upmid_len l k h]; exact Nat.le_refl _),upmid_len l k h,Nat.sub_self,List.getElem?_drop,Nat.add_zero,List.getElem?_eq_getElem h]
theorem upmid_set (l:List UInt8) (k:Nat) (h:k < l.length):((l.take k).map upU ++ l.drop k).set k (upU l[k])=(l.take (k + 1)).map upU ++ l.drop (k + 1):=by
 rw [List.set_append_right _ _ (by rw [upmid_len l k h]; exact Nat.le_refl _),upmid_len l k h,Nat.sub_self,List.take_succ_eq_append_getElem h,List.map_append,List.drop_eq_getElem_cons h,List.set_cons_zero]
 simp
theorem upper1_any (b g:Nat) (l:List UInt8) (c:Nat) (hl:l.length≤1000000) (hbg:b≠g) (w:World) (hb:w.cell? ⟨b,0,none⟩=some (.slice (some ⟨g,0,none⟩) l.length c)) (hr:BRow w g l) :
 Calls Tryz.prog 181 #[.func (.func 182) #[] #[],.pointer (some ⟨b,0,none⟩)] w fun e w'=>e=.returned (.tuple #[])∧BRow w' g (l.map upU)∧One g w w':=by
 go_enter Tryz.func181,Tryz.ntmps181
 go_wp2_with fail
 go_loopw [7] (fun vi wr=>∃ k:Nat,k≤l.length∧vi=.int .i64 k∧BRow wr g ((l.take k).map upU ++ l.drop k)∧One g w wr) (fun vi _=>l.length - (intOf vi).toNat)
 case atStart=>exact ⟨0,Nat.zero_le _,rfl,by simpa using hr,One.refl _ _⟩
 case round =>
  obtain ⟨k,hk,rfl,hrow,hone⟩:=hrel
  by_cases hkl:k < l.length
  · have c0:wr.cell? ⟨b,0,none⟩=some (.slice (some ⟨g,0,none⟩) l.length c):=Fr.cell hone hb (fun e=>hbg e)
    have hat:=upmid_at l k hkl
    have hset:=upmid_set l k hkl
    obtain ⟨x,ex⟩:∃ x,x=l[k]:=⟨_,rfl⟩
    rw [← ex] at hat hset
    have c1:=(hrow k x hat).1
    have f1:=(hrow k x hat).2
    have c1':∀ n,(wr.drewN n).cell? ⟨g,k,none⟩=some (.int .u8 (x.toNat:Int)):=fun n=>c1
    have cst:∀ v,(wr.setCell ⟨g,k,none⟩ v).drew.cell? ⟨b,0,none⟩=some (.slice (some ⟨g,0,none⟩) l.length c):=fun v=>(World.cell?_setCell_other wr ⟨g,k,none⟩ ⟨b,0,none⟩ v (by intro e; injection e with e; exact hbg e.symm)).trans c0
    have HROW:=Lib.hid hrow
    have HSET:=Lib.hid hset
    clear hrow hat hset ex
    go_wp2_with fail
    go_region_held3 (fun w'=>w'.cell? ⟨b,0,none⟩=some (.slice (some ⟨g,0,none⟩) l.length c)) (first | go_keep | assumption | exact cst _)
     ((first
       | (go_at_call 182
          refine (upper2_any x _).mono ?_
          rintro e w1 ⟨rfl,rfl⟩
          have c1:wr.drew.cell? ⟨b,0,none⟩=some (.slice (some ⟨g,0,none⟩) l.length c):=c0)
       | fail))
    go_wp2
    go_roundw
    case rel =>
     refine ⟨k + 1,by omega,by go_num,?_,(hone.set k _).drew⟩
     rw [← HSET.out]
     exact (HROW.out.set_ k _)
    case measure=>simp [intOf]; omega
  · go_wp2
    go_end0
    have e1:l.take k=l:=List.take_of_length_le (by omega)
    have e2:l.drop k=[]:=List.drop_eq_nil_of_le (by omega)
    rw [e1,e2,List.append_nil] at hrow
    exact ⟨rfl,hrow,hone⟩
theorem bytesRow_at (s:ByteArray) (cap i:Nat) (x:UInt8) (h:s.data.toList[i]? = some x):(bytesRow s cap)[i]? = some (.int .u8 (x.toNat:Int)):=by
 have hi:i < s.data.toList.length:=(List.getElem?_eq_some_iff.1 h).1
 unfold bytesRow
 rw [Array.getElem?_append_left (by simpa using hi),Array.getElem?_map]
 rw [Array.getElem?_toList] at h
 rw [h]
 rfl
def upS (s:ByteArray):ByteArray:=⟨(s.data.toList.map upU).toArray⟩
theorem upper_any (s:ByteArray) (hs:s.size≤1000000) (w:World):Calls Tryz.prog 126 #[.string s] w fun e w'=>e=.returned (.string (upS s))∧New w w':=by
 have hconv:=run_bytes_of_string (P:=Tryz.prog) w 9 23 5 s Tryz.underlying9 Tryz.underlying23 Tryz.underlying5
 have hmf:∀ (fn:Fn) (first cap:Array Value) (w:World),(Instr.makeFunc fn first cap).run Tryz.prog w=.ok (.func fn first cap) w:=fun _ _ _ _=>rfl
 have hsl:s.data.toList.length=s.size:=rfl
 obtain ⟨C,hC⟩:∃ C,C=bytesRow s (grownCap w s.size 0 5):=⟨_,rfl⟩
 obtain ⟨cap,hcap⟩:∃ cap,cap=grownCap w s.size 0 5:=⟨_,rfl⟩
 have hrow0:BRow (w.drew.alloc (.cells C 5 (C.size,C.size + 1))) w.heap.size s.data.toList:=by
  intro i x hx
  have h1:C[i]? = some (.int .u8 (x.toNat:Int)):=by rw [hC]; exact bytesRow_at s _ i x hx
  have h2:i < C.size:=(Array.getElem?_eq_some_iff.1 h1).1
  refine ⟨?_,?_⟩
  · show (w.alloc (.cells C 5 (C.size,C.size + 1))).cell? ⟨w.heap.size,i,none⟩=_
    simp [World.alloc,World.cell?,-World.alloc_eq,h1]
  · show (w.alloc (.cells C 5 (C.size,C.size + 1))).frozen? ⟨w.heap.size,i,none⟩=_
    rw [World.frozen?_alloc_mark]
    simp
    omega
 rw [← hC,← hcap] at hconv
 have HROW:=Lib.hid hrow0
 clear hrow0 hC hcap
 have hbox:Blk ((w.alloc (.cells C 5 (C.size,C.size + 1))).alloc (.cells #[.slice (some ⟨w.heap.size,0,none⟩) s.size cap] 23)).drew (w.heap.size + 1) 23 #[.slice (some ⟨w.heap.size,0,none⟩) s.size cap]:=(Blk.new1 _ _ _ _)
 have hrow1:BRow ((w.alloc (.cells C 5 (C.size,C.size + 1))).alloc (.cells #[.slice (some ⟨w.heap.size,0,none⟩) s.size cap] 23)).drew w.heap.size s.data.toList:=by
  intro i x hx
  obtain ⟨h1,h2⟩:=HROW.out i x hx
  refine ⟨?_,?_⟩
  · show ((w.alloc _).alloc _).cell? _=_
    rw [World.cell?_alloc_past _ _ _ (by simp)]
    exact h1
  · show ((w.alloc _).alloc _).frozen? _=_
    rw [World.frozen?_alloc_past _ _ _ (by simp)]
    exact h2
 have hnew1:New w ((w.alloc (.cells C 5 (C.size,C.size + 1))).alloc (.cells #[.slice (some ⟨w.heap.size,0,none⟩) s.size cap] 23)).drew:=(((New.refl w).alloc _).alloc _).drew
 have hcall:=upper1_any (w.heap.size + 1) w.heap.size s.data.toList cap (by rw [hsl]; exact hs) (by omega) _ (hbox.cell 0) hrow1
 have HCALL:=Lib.hid hcall
 have HROW1:=Lib.hid hrow1
 clear HROW hcall hrow1
 go_enter Tryz.func126,Tryz.ntmps126
 go_wp2_with fail
 refine HCALL.out.mono ?_
 rintro e w1 ⟨rfl,hr,ho⟩
 have c0:w1.cell? ⟨w.heap.size + 1,0,none⟩=some (.slice (some ⟨w.heap.size,0,none⟩) s.size cap):=(ho.blk hbox (by omega)).cell 0
 have hback:(convert 23 9 (.slice (some ⟨w.heap.size,0,none⟩) s.size cap)).run Tryz.prog w1=.ok (.string (upS s)) w1:=by
  have h:=run_convert_bytes_back (P:=Tryz.prog) w1 23 9 5 ⟨w.heap.size,0,none⟩ cap (s.data.toList.map upU) Tryz.underlying23 Tryz.underlying5 Tryz.underlying9 (fun j hj=>by
   rw [Addr.add_lit,Nat.zero_add]
   exact (hr j _ (List.getElem?_eq_getElem hj)).1)
  rw [List.length_map] at h
  exact h
 go_wp2
 go_ret
 exact ⟨rfl,hnew1.one ho (Nat.le_refl _)⟩
def sameB (a b:ByteArray):Bool:=a.data.toList.map upU == b.data.toList.map upU
theorem same_any (a b:ByteArray) (ha:a.size≤1000000) (hb:b.size≤1000000) (w:World):Calls Tryz.prog 91 #[.string a,.string b] w fun e w'=>e=.returned (.bool (sameB a b))∧New w w':=by
 go_enter Tryz.func91,Tryz.ntmps91
 go_wp2_with fail
 refine (upper_any a ha w).mono ?_
 rintro e w1 ⟨rfl,n1⟩
 go_wp2_with fail
 refine (upper_any b hb w1).mono ?_
 rintro e w2 ⟨rfl,n2⟩
 go_wp2
 go_ret
 refine ⟨?_,n1.trans n2⟩
 show Ending.returned (Value.bool ((upS a).toList == (upS b).toList))=_
 rw [ByteArray.toList_eq,ByteArray.toList_eq]
 rfl
end Go.Proofs.YtliimglbbiebiaaGreatDoor
end

