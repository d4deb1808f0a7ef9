/- A part of the proof: Gi, RspOk, Get1, View1, Full4. -/
import Derived.Test.YtliimglbbiebiaaGreatDoorGTopPairsAQ
import Derived.Test.YtliimglbbiebiaaGreatDoorGTopPairsAN
import Derived.Test.YtliimglbbiebiaaGreatDoorGTopPairsAL
import Derived.Test.YtliimglbbiebiaaGreatDoorGTopPairsAM
set_option maxRecDepth 100000
set_option maxHeartbeats 6400000
section
namespace Go.Proofs.YtliimglbbiebiaaGreatDoor
open Go.RowKit Go.Maps
section
variable {w0 W W':World} {base B v x:Nat} {S:Sx} {Q:Qs} {M:List Msg} {n t f:Int} {u:Value}
theorem STX.foot_cells (h:STX w0 base W S Q M n t f) (hB:base≤B) (hq:S.q < B) {k:Nat} (hk:S.foot Q k) (hBk:B≤k):∃ t cs,Blk W k t cs:=by
 rcases hk with h1 | rfl | rfl | rfl | h1 | h1 | h1
 · have:=h1.2
   have:=h.hi
   omega
 · exact ⟨_,_,h.hd⟩
 · exact ⟨_,_,h.ctr⟩
 · exact ⟨_,_,h.idx.1⟩
 · obtain ⟨cs,hc⟩:=h.idx.2.1.heap h1
   exact ⟨_,cs,hc⟩
 · omega
 · obtain ⟨i,hi,h2⟩:=h1
   have hq:=h.qx.que i hi
   rcases h2 with rfl | h2
   · exact ⟨_,_,hq.blk⟩
   · obtain ⟨cs,hc⟩:=hq.own.heap h2
     exact ⟨_,cs,hc⟩
theorem STX.keepsFrom (h:STX w0 base W S Q M n t f) (hf:Fr (S.foot Q) W W') (hB:base≤B) (hq:S.q < B):KeepsFrom B W W':=keeps_fr hf fun k hk hs o ho=>by
 obtain ⟨_,_,hb⟩:=h.foot_cells hB hq hs hk
 exact hb.isCells o ho
theorem STX.doKeeps (h:STX w0 base W S Q M n t f) (hf:Fr (S.foot Q) W W') (hB:base≤B) (hq:S.q < B) (hv:∀ k,(k=v∨k=x∨u.ownBlock=some k)→¬ S.foot Q k):DoKeeps B v x u W W' where
 kf:=h.keepsFrom hf hB hq
 kx:=fun k hk hl=>hf.block k hl (hv k hk)
 kt:=fun k ty cs hb hBk ht=>hf.blk hb (by rcases ht with rfl | rfl | rfl | rfl | rfl | rfl | rfl <;> exact h.not_foot hb (Nat.le_trans hB hBk) (by decide) (by decide) (by decide) (by decide) (by decide) (by decide))
theorem STX.odd (h:STX w0 base W S Q M n t f) (hf:Fr (fun k=>B≤k∧Odd W k) W W') (hB:base≤B) (hw:w0.heap.size≤B) (hq:S.q < B):STX w0 base W' S Q M n t f:=by
 refine h.keep hf ?_ ?_ fun k hk=>Nat.le_trans hw hk.1
 · rintro k hk ⟨hBk,⟨o,ho,hc⟩ | ⟨ty,cs,hb,ht⟩⟩
   · obtain ⟨_,_,hb⟩:=h.foot_cells hB hq hk hBk
     rw [hb.isCells o ho] at hc
     cases hc
   · rcases ht with rfl | rfl | rfl <;> exact h.not_foot hb (Nat.le_trans hB hBk) (by decide) (by decide) (by decide) (by decide) (by decide) (by decide) hk
 · rintro v l hv b hb ⟨hBk,⟨o,ho,hc⟩ | ⟨ty,cs,hb',ht⟩⟩
   · obtain ⟨cs,hcs⟩:=hv.heap hb
     rw [hcs.isCells o ho] at hc
     cases hc
   · obtain ⟨cs',hcs⟩:=hv.heap hb
     rcases ht with rfl | rfl | rfl <;> exact absurd rfl (hcs.ne_ hb' (by decide))
def EvK (n:Int) (e:Ev):Prop:=e.k=3∧(0≤e.u∧e.u < n)∧(0≤e.f∧e.f≤31)
structure GI (w0:World) (base v x:Nat) (u:Value) (S:Sx) (Q:Qs) (M:List Msg) (n t f:Int) (j:Nat) (Q':Qs) (M':List Msg) (w W:World):Prop where
 st:STX w0 base W S Q' M' n t f
 ids:Q'.ids=Q.ids
 ev:∀ i,∃ L,Q'.l i=Q.l i ++ L∧L.length≤j∧∀ e ∈ L,EvK n e
 uids:M'.map Msg.uid=M.map Msg.uid
 far:∀ k,(k=v∨k=x∨u.ownBlock=some k)→¬ S.foot Q' k
 gr:∀ k,S.foot Q' k→S.foot Q k∨w.heap.size≤k
 sz:w.heap.size≤W.heap.size
 fr:Fr (S.foot Q) w W
theorem GI.odd {Q':Qs} {M':List Msg} {j:Nat} {w:World} (h:GI w0 base v x u S Q M n t f j Q' M' w W) (hf:Fr (fun k=>B≤k∧Odd W k) W W') (hB:base≤B) (hw:w0.heap.size≤B) (hq:S.q < B) (hBw:w.heap.size≤B):GI w0 base v x u S Q M n t f j Q' M' w W' :=
 { h with st:=h.st.odd hf hB hw hq,sz:=Nat.le_trans h.sz hf.size,fr:=Fr.trans' h.fr hf fun i hi hk=>by have:=hk.1; omega }
theorem GI.step {Q' Q'':Qs} {M' M'':List Msg} {j:Nat} {w:World} (h:GI w0 base v x u S Q M n t f j Q' M' w W) (hs:STX w0 base W' S Q'' M'' n t f) (hp:Stp W W' S Q' S Q'') (hlt:∀ k,(k=v∨k=x∨u.ownBlock=some k)→k < W.heap.size)
 (hi:Q''.ids=Q'.ids) (hl:∀ i,∃ L,Q''.l i=Q'.l i ++ L∧L.length≤1∧∀ e ∈ L,EvK n e) (hu:M''.map Msg.uid=M'.map Msg.uid):GI w0 base v x u S Q M n t f (j + 1) Q'' M'' w W' where
 st:=hs
 ids:=hi.trans h.ids
 ev:=fun i=>by
  obtain ⟨L,e1,h1,h2⟩:=h.ev i
  obtain ⟨K,e2,h3,h4⟩:=hl i
  exact ⟨L ++ K,by rw [e2,e1,List.append_assoc],by rw [List.length_append]; omega,fun e he=>(List.mem_append.1 he).elim (h2 e) (h4 e)⟩
 uids:=hu.trans h.uids
 far:=fun k hk=>hp.far (hlt k hk) (h.far k hk)
 gr:=fun k hk=>by
  rcases hp.gr k hk with h1 | h1
  · exact h.gr k h1
  · exact .inr (Nat.le_trans h.sz h1)
 sz:=Nat.le_trans h.sz hp.fr.size
 fr:=Fr.trans' h.fr hp.fr fun i hi hk=>by
  rcases h.gr i hk with h1 | h1
  · exact h1
  · omega
theorem GI.init {w:World} (h:STX w0 base w S Q M n t f) (hn:New w W) (hfar:∀ k,(k=v∨k=x∨u.ownBlock=some k)→¬ S.foot Q k):GI w0 base v x u S Q M n t f 0 Q M w W where
 st:=h.more hn
 ids:=rfl
 ev:=fun i=>⟨[],by simp,by simp,by simp⟩
 uids:=rfl
 far:=hfar
 gr:=fun _ hk=>.inl hk
 sz:=hn.size
 fr:=New.to hn
end
theorem flM_uids (M:List Msg) (k mode f:Int):(flM M k mode f).map Msg.uid=M.map Msg.uid:=by
 unfold flM
 split
 · unfold setF
   rw [List.map_map]
   refine List.map_congr_left fun m _=>?_
   dsimp only [Function.comp]
   split <;> rfl
 · rfl
theorem chEv_one (n:Int) (M:List Msg) (by_ k mode fl:Int) (i:Int) (hk0:0≤k) (hk1:k < n) (hf:0≤fl):(chEv M by_ k mode fl i).length≤1∧∀ e ∈ chEv M by_ k mode fl i,EvK n e:=by
 unfold chEv
 split
 · exact ⟨by simp,fun e he=>by rw [List.mem_singleton.1 he]; exact ⟨rfl,⟨hk0,hk1⟩,flX_ok hf⟩⟩
 · exact ⟨by simp,fun e he=>by cases he⟩
end Go.Proofs.YtliimglbbiebiaaGreatDoor
end

section
namespace Go.Proofs.YtliimglbbiebiaaGreatDoor
open Go.RowKit
theorem RspOk.fr {B:Nat} {w w':World} {r:Rsp} {R:Nat→Prop} (h:RspOk B w r) (hf:Fr R w w') (hR:∀ k cs,B≤k→Blk w k 5 cs→¬ R k):RspOk B w' r :=
 have hb:∃ bl,Own (intE .u8) 5 B w' (.slice r.A r.bn r.bc) bl∧bl.length≤65536:=by
  obtain ⟨bl,ho,hl⟩:=h.body
  exact ⟨bl,ho.fr hf (fun b hb=>by
   obtain ⟨cs,hc⟩:=ho.heap hb
   exact hR b cs (ho.block hb).1 hc),hl⟩
 { h with body:=hb }
theorem RspOk.new {B:Nat} {w w':World} {r:Rsp} (h:RspOk B w r) (hn:New w w'):RspOk B w' r:=h.fr hn fun _ _ _ _ h=>h
theorem RspOk.mono {B B':Nat} {w:World} {r:Rsp} (h:RspOk B w r) (hB:B'≤B):RspOk B' w r :=
 have hb:∃ bl,Own (intE .u8) 5 B' w (.slice r.A r.bn r.bc) bl∧bl.length≤65536:=by
  obtain ⟨bl,ho,hl⟩:=h.body
  exact ⟨bl,ho.mono hB,hl⟩
 { h with body:=hb }
theorem RspOk.one {B g:Nat} {w w':World} {r:Rsp} {t:TypeId} {cs:Array Value} (h:RspOk B w r) (hf:One g w w') (hg:Blk w g t cs) (ht:t≠5):RspOk B w' r :=
 h.fr hf fun k cs' _ hc e=>by
  have e:k=g:=e
  subst e
  exact hc.ne_ hg (Ne.symm ht) rfl
theorem RspOk.bare (B:Nat) (w:World) (k n:Int) (hk:1≤k∧k≤10) (hn:0≤n∧n≤4294967295):RspOk B w ⟨k,n,⟨#[]⟩,0,⟨#[]⟩,0,0,0,0,none,0,0⟩ :=
 have h2:(0:Int)≤0∧(0:Int)≤2:=by decide
 have h3:(0:Int)≤0∧(0:Int)≤31:=by decide
 have h4:(0:Int)≤0∧(0:Int)≤255:=by decide
 have h5:(0:Int)≤0∧(0:Int)≤4294967295:=by decide
 { kk:=hk,n0:=hn,t0:=Nat.zero_le _,x0:=Nat.zero_le _,st0:=h2,it0:=h3,fl0:=h4,uid0:=h5,sz0:=h5,body:=⟨[],Own.nil _ _ _ _,Nat.zero_le _⟩ }
end Go.Proofs.YtliimglbbiebiaaGreatDoor
end

section
namespace Go.Proofs.YtliimglbbiebiaaGreatDoor
open Go.RowKit Go.Maps
theorem results_cell_tmp2 {P:Program} {fn:Func} {p q r:Tmp} {t:TypeId} (h:fn.results=#[.cell p t,.tmp q,.tmp r]) (tmps:Array Value) (w:World) {a:Addr} {v v' v'':Value}
 (hp:tmps[p]? = some (.pointer (some a))) (hq:tmps[q]? = some v') (hr:tmps[r]? = some v'') (hv:(loadVar t a).run P w=.ok v w):(results fn tmps).run P w=.ok (.tuple #[v,v',v'']) w:=by
 simp [results,h,hp,hq,hr,asAddr,hv]
theorem STX.one_ {w0 W W':World} {base g:Nat} {S:Sx} {Q:Qs} {M:List Msg} {n t f:Int} {ty:TypeId} {cs:Array Value} (h:STX w0 base W S Q M n t f) (o:One g W W') (hb:Blk W g ty cs) (hg:base≤g) (hw:w0.heap.size≤g)
 (h1:ty≠94) (h2:ty≠155) (h3:ty≠163) (h4:ty≠28) (h5:ty≠351) (h6:ty≠232) (h7:ty≠5):STX w0 base W' S Q M n t f :=
 h.keep o (fun k hk e=>by have e:k=g:=e; subst e; exact h.not_foot hb hg h1 h2 h3 h4 h5 h6 hk)
  (fun v l hv b hb' e=>by have e:b=g:=e; subst e; obtain ⟨cs',hc⟩:=hv.heap hb'; exact absurd rfl (hc.ne_ hb (Ne.symm h7)))
  (fun k e=>by have e:k=g:=e; omega)
theorem marks_any (items:Int) (w:World):Calls Tryz.prog 142 #[.int .i64 items] w fun e w'=>e=.returned (.bool (bits .and .i64 items 16 != 0))∧w'=w:=by
 go_enter Tryz.func142,Tryz.ntmps142
 go_wp2
 go_ret
 exact ⟨rfl,rfl⟩
theorem fget1_any {w0 w W:World} {base v x:Nat} {u:Value} {S:Sx} {Q Q':Qs} {M M':List Msg} {n t f:Int} {j:Nat} (h:GI w0 base v x u S Q M n t f j Q' M' w W)
 (hlt:∀ k,(k=v∨k=x∨u.ownBlock=some k)→k < W.heap.size) (hQ:∀ i ∈ Q'.ids,(Q'.l i).length≤100000000)
 {sb ib bb:Nat} {items by_:Int} (hs:Blk W sb 39 #[.pointer (some ⟨S.s,0,none⟩)]) (hi:Blk W ib 3 #[.int .i64 items]) (hb:Blk W bb 3 #[.int .i64 by_])
 (hsb:base≤sb) (hib:base≤ib) (hbb:base≤bb) (seq uid:Int) (hq0:0≤seq) (hq1:seq≤4294967295) (hu0:0≤uid) (hu1:uid < n) :
 Calls Tryz.prog 140 #[.int .i64 seq,.int .u32 uid,.pointer (some ⟨sb,0,none⟩),.pointer (some ⟨ib,0,none⟩),.pointer (some ⟨bb,0,none⟩)] W fun e W'=>∃ (r:Rsp) (told there:Bool) (Q'':Qs) (M'':List Msg),e=.returned (.tuple #[r.val,.bool told,.bool there]) ∧
  (told=true→(r.k=4∧r.n=seq∧(bits .and .i64 r.it 2≠0→r.uid=uid))∧RspOk W.heap.size W' r)∧GI w0 base v x u S Q M n t f (j + 1) Q'' M'' w W'∧Fr (S.foot Q') W W':=by
 have n0:New W (W.alloc (.cells #[.int .i64 0,.int .u32 0,.string ⟨#[]⟩,.int .i64 0,.string ⟨#[]⟩,.int .i64 0,.int .u8 0,.int .u32 0,.int .u32 0,.slice none 0 0] 53)):=(New.refl W).alloc _
 have q0:∀ o,(W.alloc o).cell? ⟨sb,0,none⟩=some (.pointer (some ⟨S.s,0,none⟩)):=fun o=>(hs.alloc o).cell 0
 have hu1x:uid≤4294967295:=by have:=h.st.n1; omega
 have HG:=Lib.hid (sget_any (h.st.more n0) uid hu0 hu1x)
 have H:=Lib.hid h
 have HC:=Lib.hid (And.intro hs (And.intro hi (And.intro hb (And.intro hlt hQ))))
 clear h hs hi hb hlt hQ n0
 go_enter Tryz.func140,Tryz.ntmps140
 go_wp2_with fail
 refine HG.out.mono ?_
 rintro e W1 ⟨⟨⟨yu,yf,yb⟩,yA,yn,yc⟩,rfl,hym,hown,hst1,hp1⟩
 dsimp only at hym hown
 dsimp only [MB.bv] at hown
 dsimp only [MB.val]
 have hn6:∀ {wx:World} {Qx:Qs} {Mx:List Msg} {g:Nat} {cs:Array Value},STX w0 base wx S Qx Mx n t f→Blk wx g 53 cs→base≤g→¬ S.foot Qx g:=fun hx hb hg=>hx.not_foot hb hg (by decide) (by decide) (by decide) (by decide) (by decide) (by decide)
 have hnp:∀ {wx:World} {Qx:Qs} {Mx:List Msg} {g:Nat} {cs:Array Value},STX w0 base wx S Qx Mx n t f→Blk wx g 39 cs→base≤g→¬ S.foot Qx g:=fun hx hb hg=>hx.not_foot hb hg (by decide) (by decide) (by decide) (by decide) (by decide) (by decide)
 have hni:∀ {wx:World} {Qx:Qs} {Mx:List Msg} {g:Nat} {cs:Array Value},STX w0 base wx S Qx Mx n t f→Blk wx g 3 cs→base≤g→¬ S.foot Qx g:=fun hx hb hg=>hx.not_foot hb hg (by decide) (by decide) (by decide) (by decide) (by decide) (by decide)
 have hnm:∀ {wx:World} {Qx:Qs} {Mx:List Msg} {g:Nat} {cs:Array Value},STX w0 base wx S Qx Mx n t f→Blk wx g 238 cs→base≤g→¬ S.foot Qx g:=fun hx hb hg=>hx.not_foot hb hg (by decide) (by decide) (by decide) (by decide) (by decide) (by decide)
 have n0:New W (W.alloc (.cells #[.int .i64 0,.int .u32 0,.string ⟨#[]⟩,.int .i64 0,.string ⟨#[]⟩,.int .i64 0,.int .u8 0,.int .u32 0,.int .u32 0,.slice none 0 0] 53)):=(New.refl W).alloc _
 have hst0:=H.out.st.more n0
 have bX:Blk (W.alloc (.cells #[.int .i64 0,.int .u32 0,.string ⟨#[]⟩,.int .i64 0,.string ⟨#[]⟩,.int .i64 0,.int .u8 0,.int .u32 0,.int .u32 0,.slice none 0 0] 53)) W.heap.size 53 #[.int .i64 0,.int .u32 0,.string ⟨#[]⟩,.int .i64 0,.string ⟨#[]⟩,.int .i64 0,.int .u8 0,.int .u32 0,.int .u32 0,.slice none 0 0]:=Blk.new _ _ _
 have bX1:=Fr.blk hp1.fr bX (hn6 hst0 bX H.out.st.hb)
 have bs1:=Fr.blk hp1.fr (n0.blk HC.out.1) (hnp hst0 (n0.blk HC.out.1) hsb)
 have bi1:=Fr.blk hp1.fr (n0.blk HC.out.2.1) (hni hst0 (n0.blk HC.out.2.1) hib)
 have bb1:=Fr.blk hp1.fr (n0.blk HC.out.2.2.1) (hni hst0 (n0.blk HC.out.2.2.1) hbb)
 have hsz1:W.heap.size + 1≤W1.heap.size:=by have:=hp1.fr.size; rwa [World.size_alloc] at this
 have hp01:Stp W W1 S Q' S Q':=(Stp.new n0).trans hp1
 have n2:New W1 (W1.alloc (.cells #[.int .u32 yu,.int .u8 yf,.slice yA yn yc] 238)):=(New.refl W1).alloc _
 have bM:Blk (W1.alloc (.cells #[.int .u32 yu,.int .u8 yf,.slice yA yn yc] 238)) W1.heap.size 238 #[.int .u32 yu,.int .u8 yf,.slice yA yn yc]:=Blk.new _ _ _
 have c1:∀ o,(W1.alloc o).cell? ⟨ib,0,none⟩=some (.int .i64 items):=fun o=>(bi1.alloc o).cell 0
 have c2:∀ o,(W1.alloc o).cell? ⟨sb,0,none⟩=some (.pointer (some ⟨S.s,0,none⟩)):=fun o=>(bs1.alloc o).cell 0
 have c3:∀ o,(W1.alloc o).cell? ⟨bb,0,none⟩=some (.int .i64 by_):=fun o=>(bb1.alloc o).cell 0
 have hbW:=H.out.st.hb
 have hw0:w0.heap.size≤W.heap.size:=H.out.st.new.size
 cases hfo:(findM M' uid).isSome
 · obtain ⟨⟨x0,y0⟩,⟨x1,y1⟩,⟨x2,y2⟩,⟨x3,y3⟩,⟨x4,y4⟩,⟨x5,y5⟩,⟨x6,y6⟩,⟨x7,y7⟩,⟨x8,y8⟩,⟨x9,y9⟩⟩:=cells10 (bX1.alloc (.cells #[.int .u32 yu,.int .u8 yf,.slice yA yn yc] 238))
   have HF:=Lib.hid (And.intro hst1 (And.intro hp01 (And.intro (bX1.alloc (.cells #[.int .u32 yu,.int .u8 yf,.slice yA yn yc] 238)) n2)))
   clear hn6 hnp hni hnm hst1 hp1 hp01 bX1 bs1 bi1 bb1 bX hst0 n0 n2 bM c1 c2 c3 hown
   go_wp2_with fail
   have hb10:=blk10 HF.out.2.2.1 (.int .i64 0) (.int .u32 0) (.string ⟨#[]⟩) (.int .i64 0) (.string ⟨#[]⟩) (.int .i64 0) (.int .u8 0) (.int .u32 0) (.int .u32 0) (.slice none 0 0)
   have ho10:=one10 (w:=W1.alloc (.cells #[.int .u32 yu,.int .u8 yf,.slice yA yn yc] 238)) (g:=W.heap.size) (.int .i64 0) (.int .u32 0) (.string ⟨#[]⟩) (.int .i64 0) (.string ⟨#[]⟩) (.int .i64 0) (.int .u8 0) (.int .u32 0) (.int .u32 0) (.slice none 0 0)
   have hst2:=(HF.out.1.more HF.out.2.2.2).one_ ho10 HF.out.2.2.1 hbW hw0 (by decide) (by decide) (by decide) (by decide) (by decide) (by decide) (by decide)
   have hfin:Fr (S.foot Q') W ((((((((((W1.alloc (.cells #[.int .u32 yu,.int .u8 yf,.slice yA yn yc] 238)).setCell ⟨W.heap.size,0,none⟩ (.int .i64 0)).setCell ⟨W.heap.size,1,none⟩ (.int .u32 0)).setCell ⟨W.heap.size,2,none⟩ (.string ⟨#[]⟩)).setCell ⟨W.heap.size,3,none⟩ (.int .i64 0)).setCell ⟨W.heap.size,4,none⟩ (.string ⟨#[]⟩)).setCell ⟨W.heap.size,5,none⟩ (.int .i64 0)).setCell ⟨W.heap.size,6,none⟩ (.int .u8 0)).setCell ⟨W.heap.size,7,none⟩ (.int .u32 0)).setCell ⟨W.heap.size,8,none⟩ (.int .u32 0) |>.setCell ⟨W.heap.size,9,none⟩ (.slice none 0 0)):=Fr.trans' (HF.out.2.1.fr.alloc _) ho10 fun i hi e=>by have e:i=W.heap.size:=e; omega
   refine bodyPost_ret (results_cell_tmp2 rfl _ _ rfl rfl rfl (loadR hb10)) rfl ?_
   refine ⟨⟨0,0,⟨#[]⟩,0,⟨#[]⟩,0,0,0,0,none,0,0⟩,false,false,Q',M',rfl,(fun e=>by cases e),H.out.step hst2 ⟨hfin,fun _ h=>.inl h,rfl,rfl⟩ HC.out.2.2.2.1 rfl (fun i=>⟨[],by simp,by simp,by simp⟩) rfl,hfin⟩
 · obtain ⟨m,hm⟩:=Option.isSome_iff_exists.1 hfo
   have hym':=hym
   rw [hm] at hym'
   have hmu:=(findM_mem hm).2
   have hok:=hst1.ok m (findM_mem hm).1
   dsimp only [Option.getD_some] at hym'
   subst hym'
   dsimp only at hmu hok
   have hmu':uid=yu:=hmu.symm
   clear hmu
   subst hmu'
   obtain ⟨⟨_,hfl⟩,hbl⟩:=hok
   dsimp only at hfl
   rcases hmk:(bits .and .i64 items 16 != 0) with _ | _
   · have HT:Hid (STX w0 base (W1.alloc (.cells #[.int .u32 uid,.int .u8 yf,.slice yA yn yc] 238)) S Q' M' n t f∧Stp W (W1.alloc (.cells #[.int .u32 uid,.int .u8 yf,.slice yA yn yc] 238)) S Q' S Q'∧Blk (W1.alloc (.cells #[.int .u32 uid,.int .u8 yf,.slice yA yn yc] 238)) W.heap.size 53 #[.int .i64 0,.int .u32 0,.string ⟨#[]⟩,.int .i64 0,.string ⟨#[]⟩,.int .i64 0,.int .u8 0,.int .u32 0,.int .u32 0,.slice none 0 0]):=Lib.hid ⟨hst1.more n2,hp01.trans (Stp.new n2),bX1.alloc _⟩
     have HMS:=Lib.hid (message_any seq hq0 hq1 items uid yf ⟨hu0,hu1x⟩ ⟨hfl.1,by omega⟩ yA yn yc yb (W1.alloc (.cells #[.int .u32 uid,.int .u8 yf,.slice yA yn yc] 238)) (hown.alloc _).rd hbl)
     clear hn6 hnp hni hnm hst1 hp1 hp01 bX1 bs1 bi1 bb1 bX hst0 n0 n2 bM hown hym hm hfo
     go_wp2_with (first
      | (go_at_call 142
         refine (marks_any items _).mono ?_
         rintro e w3 ⟨rfl,rfl⟩)
      | fail)
     refine HMS.out.mono ?_
     rintro e W4 ⟨⟨rk,rn,rt,rst,rx,rit,rfl_,ruid,rsz,rA,rbn,rbc⟩,rfl,hrok,hk4,hn4,hit4,n4⟩
     dsimp only at hk4 hn4 hit4
     dsimp only [Rsp.val]
     have bX4:=n4.blk HT.out.2.2
     obtain ⟨⟨x0,y0⟩,⟨x1,y1⟩,⟨x2,y2⟩,⟨x3,y3⟩,⟨x4,y4⟩,⟨x5,y5⟩,⟨x6,y6⟩,⟨x7,y7⟩,⟨x8,y8⟩,⟨x9,y9⟩⟩:=cells10 bX4
     have HX:=Lib.hid (And.intro n4 (And.intro bX4 (And.intro hk4 (And.intro hn4 hit4))))
     have HRO:=Lib.hid hrok
     clear n4 bX4 hk4 hn4 hit4 hrok
     go_wp2_with fail
     have hb10:=blk10 HX.out.2.1 (.int .i64 rk) (.int .u32 rn) (.string rt) (.int .i64 rst) (.string rx) (.int .i64 rit) (.int .u8 rfl_) (.int .u32 ruid) (.int .u32 rsz) (.slice rA rbn rbc)
     have ho10:=one10 (w:=W4) (g:=W.heap.size) (.int .i64 rk) (.int .u32 rn) (.string rt) (.int .i64 rst) (.string rx) (.int .i64 rit) (.int .u8 rfl_) (.int .u32 ruid) (.int .u32 rsz) (.slice rA rbn rbc)
     have hst2:=(HT.out.1.more HX.out.1).one_ ho10 HX.out.2.1 hbW hw0 (by decide) (by decide) (by decide) (by decide) (by decide) (by decide) (by decide)
     have hfin:Fr (S.foot Q') W ((((((((((W4.setCell ⟨W.heap.size,0,none⟩ (.int .i64 rk)).setCell ⟨W.heap.size,1,none⟩ (.int .u32 rn)).setCell ⟨W.heap.size,2,none⟩ (.string rt)).setCell ⟨W.heap.size,3,none⟩ (.int .i64 rst)).setCell ⟨W.heap.size,4,none⟩ (.string rx)).setCell ⟨W.heap.size,5,none⟩ (.int .i64 rit)).setCell ⟨W.heap.size,6,none⟩ (.int .u8 rfl_)).setCell ⟨W.heap.size,7,none⟩ (.int .u32 ruid)).setCell ⟨W.heap.size,8,none⟩ (.int .u32 rsz)).setCell ⟨W.heap.size,9,none⟩ (.slice rA rbn rbc)):=Fr.trans' (Fr.trans' HT.out.2.1.fr HX.out.1 fun _ _ h=>h.elim) ho10 fun i hi e=>by have e:i=W.heap.size:=e; omega
     refine bodyPost_ret (results_cell_tmp2 rfl _ _ rfl rfl rfl (loadR hb10)) rfl ?_
     exact ⟨⟨rk,rn,rt,rst,rx,rit,rfl_,ruid,rsz,rA,rbn,rbc⟩,true,true,Q',M',rfl,fun _=>⟨⟨HX.out.2.2.1,HX.out.2.2.2.1,fun h=>(HX.out.2.2.2.2 h).1⟩,(HRO.out.mono HT.out.2.1.fr.size).one ho10 HX.out.2.1 (by decide)⟩,H.out.step hst2 ⟨hfin,HT.out.2.1.gr,rfl,rfl⟩ HC.out.2.2.2.1 rfl (fun i=>⟨[],by simp,by simp,by simp⟩) (rfl),hfin⟩
   · rcases hsn:(bits .and .u8 yf 8 == 0) with _ | _
     · have HT:Hid (STX w0 base (W1.alloc (.cells #[.int .u32 uid,.int .u8 yf,.slice yA yn yc] 238)) S Q' M' n t f∧Stp W (W1.alloc (.cells #[.int .u32 uid,.int .u8 yf,.slice yA yn yc] 238)) S Q' S Q'∧Blk (W1.alloc (.cells #[.int .u32 uid,.int .u8 yf,.slice yA yn yc] 238)) W.heap.size 53 #[.int .i64 0,.int .u32 0,.string ⟨#[]⟩,.int .i64 0,.string ⟨#[]⟩,.int .i64 0,.int .u8 0,.int .u32 0,.int .u32 0,.slice none 0 0]):=Lib.hid ⟨hst1.more n2,hp01.trans (Stp.new n2),bX1.alloc _⟩
       have HMS:=Lib.hid (message_any seq hq0 hq1 items uid yf ⟨hu0,hu1x⟩ ⟨hfl.1,by omega⟩ yA yn yc yb (W1.alloc (.cells #[.int .u32 uid,.int .u8 yf,.slice yA yn yc] 238)) (hown.alloc _).rd hbl)
       clear hn6 hnp hni hnm hst1 hp1 hp01 bX1 bs1 bi1 bb1 bX hst0 n0 n2 bM hown hym hm hfo
       go_wp2_with (first
        | (go_at_call 142
           refine (marks_any items _).mono ?_
           rintro e w3 ⟨rfl,rfl⟩)
        | fail)
       refine HMS.out.mono ?_
       rintro e W4 ⟨⟨rk,rn,rt,rst,rx,rit,rfl_,ruid,rsz,rA,rbn,rbc⟩,rfl,hrok,hk4,hn4,hit4,n4⟩
       dsimp only at hk4 hn4 hit4
       dsimp only [Rsp.val]
       have bX4:=n4.blk HT.out.2.2
       obtain ⟨⟨x0,y0⟩,⟨x1,y1⟩,⟨x2,y2⟩,⟨x3,y3⟩,⟨x4,y4⟩,⟨x5,y5⟩,⟨x6,y6⟩,⟨x7,y7⟩,⟨x8,y8⟩,⟨x9,y9⟩⟩:=cells10 bX4
       have HX:=Lib.hid (And.intro n4 (And.intro bX4 (And.intro hk4 (And.intro hn4 hit4))))
       have HRO:=Lib.hid hrok
       clear n4 bX4 hk4 hn4 hit4 hrok
       go_wp2_with fail
       have hb10:=blk10 HX.out.2.1 (.int .i64 rk) (.int .u32 rn) (.string rt) (.int .i64 rst) (.string rx) (.int .i64 rit) (.int .u8 rfl_) (.int .u32 ruid) (.int .u32 rsz) (.slice rA rbn rbc)
       have ho10:=one10 (w:=W4) (g:=W.heap.size) (.int .i64 rk) (.int .u32 rn) (.string rt) (.int .i64 rst) (.string rx) (.int .i64 rit) (.int .u8 rfl_) (.int .u32 ruid) (.int .u32 rsz) (.slice rA rbn rbc)
       have hst2:=(HT.out.1.more HX.out.1).one_ ho10 HX.out.2.1 hbW hw0 (by decide) (by decide) (by decide) (by decide) (by decide) (by decide) (by decide)
       have hfin:Fr (S.foot Q') W ((((((((((W4.setCell ⟨W.heap.size,0,none⟩ (.int .i64 rk)).setCell ⟨W.heap.size,1,none⟩ (.int .u32 rn)).setCell ⟨W.heap.size,2,none⟩ (.string rt)).setCell ⟨W.heap.size,3,none⟩ (.int .i64 rst)).setCell ⟨W.heap.size,4,none⟩ (.string rx)).setCell ⟨W.heap.size,5,none⟩ (.int .i64 rit)).setCell ⟨W.heap.size,6,none⟩ (.int .u8 rfl_)).setCell ⟨W.heap.size,7,none⟩ (.int .u32 ruid)).setCell ⟨W.heap.size,8,none⟩ (.int .u32 rsz)).setCell ⟨W.heap.size,9,none⟩ (.slice rA rbn rbc)):=Fr.trans' (Fr.trans' HT.out.2.1.fr HX.out.1 fun _ _ h=>h.elim) ho10 fun i hi e=>by have e:i=W.heap.size:=e; omega
       refine bodyPost_ret (results_cell_tmp2 rfl _ _ rfl rfl rfl (loadR hb10)) rfl ?_
       exact ⟨⟨rk,rn,rt,rst,rx,rit,rfl_,ruid,rsz,rA,rbn,rbc⟩,true,true,Q',M',rfl,fun _=>⟨⟨HX.out.2.2.1,HX.out.2.2.2.1,fun h=>(HX.out.2.2.2.2 h).1⟩,(HRO.out.mono HT.out.2.1.fr.size).one ho10 HX.out.2.1 (by decide)⟩,H.out.step hst2 ⟨hfin,HT.out.2.1.gr,rfl,rfl⟩ HC.out.2.2.2.1 rfl (fun i=>⟨[],by simp,by simp,by simp⟩) (rfl),hfin⟩
     · have hst2:=hst1.more n2
       have HCH:=Lib.hid (schange_any hst2 HC.out.2.2.2.2 by_ uid 1 8 hu0 hu1x ⟨by omega,by omega⟩ (by decide))
       have HFT:Hid (∀ b,W.heap.size + 1≤b→S.foot Q' b→False):=Lib.hid fun b hb hk=>absurd (H.out.st.foot_lt hk) (by omega)
       have HZ:=Lib.hid (And.intro hst2 (And.intro bM (And.intro (bX1.alloc (.cells #[.int .u32 uid,.int .u8 yf,.slice yA yn yc] 238)) (And.intro (hown.alloc (.cells #[.int .u32 uid,.int .u8 yf,.slice yA yn yc] 238)) (hp01.trans (Stp.new n2))))))
       have hfx:0≤(flX M' uid 1 8)∧(flX M' uid 1 8)≤31:=flX_ok (by omega)
       have HFX:=Lib.hid (And.intro hfx (And.intro hbl hsz1))
       clear hnp hni hst1 hp1 hp01 bX1 bs1 bi1 bb1 bX hst0 n0 n2 bM hown hym hm hfo hst2 hfx hbl hsz1
       go_wp2_with (first
        | (go_at_call 142
           refine (marks_any items _).mono ?_
           rintro e w3 ⟨rfl,rfl⟩)
        | (go_at_call 143
           refine HCH.out.mono ?_
           rintro e W3 ⟨rfl,Q3,hst3,hp3,hid3,hl3⟩
           have hsz1:=HFX.out.2.2
           have bM3:=Fr.blk hp3.fr HZ.out.2.1 (hnm HZ.out.1 HZ.out.2.1 (by omega))
           have bX3:=Fr.blk hp3.fr HZ.out.2.2.1 (hn6 HZ.out.1 HZ.out.2.2.1 hbW)
           have own3:=HZ.out.2.2.2.1.fr hp3.fr (fun b hb hk=>HFT.out b (by have:=(HZ.out.2.2.2.1.block hb).1; rwa [World.size_alloc] at this) hk)
           have m0:∀ v,(W3.setCell ⟨W1.heap.size,1,none⟩ v).cell? ⟨W1.heap.size,0,none⟩=some (.int .u32 uid):=fun v=>(bM3.set_ 1 v).cell 0
           have m1:∀ v,(W3.setCell ⟨W1.heap.size,1,none⟩ v).cell? ⟨W1.heap.size,1,none⟩=some v:=fun v=>(bM3.set_ 1 v).cell 1
           have m2:∀ v,(W3.setCell ⟨W1.heap.size,1,none⟩ v).cell? ⟨W1.heap.size,2,none⟩=some (.slice yA yn yc):=fun v=>(bM3.set_ 1 v).cell 2
           have m3:W3.cell? ⟨W1.heap.size,1,none⟩=some (.int .u8 yf):=bM3.cell 1
           have m4:=bM3.froz
           have hone:=One.set (One.refl W1.heap.size W3) 1 (.int .u8 (flX M' uid 1 8))
           have hs23:=HZ.out.2.2.2.2.trans hp3
           have HT:Hid (STX w0 base (W3.setCell ⟨W1.heap.size,1,none⟩ (.int .u8 (flX M' uid 1 8))) S Q3 (flM M' uid 1 8) n t f∧Stp W (W3.setCell ⟨W1.heap.size,1,none⟩ (.int .u8 (flX M' uid 1 8))) S Q' S Q3∧Blk (W3.setCell ⟨W1.heap.size,1,none⟩ (.int .u8 (flX M' uid 1 8))) W.heap.size 53 #[.int .i64 0,.int .u32 0,.string ⟨#[]⟩,.int .i64 0,.string ⟨#[]⟩,.int .i64 0,.int .u8 0,.int .u32 0,.int .u32 0,.slice none 0 0]):=Lib.hid ⟨hst3.one_ hone bM3 (by omega) (by omega) (by decide) (by decide) (by decide) (by decide) (by decide) (by decide) (by decide),⟨Fr.trans' hs23.fr hone fun i hi e=>by have e:i=W1.heap.size:=e; omega,hs23.gr,rfl,rfl⟩,One.blk hone bX3 (by omega)⟩
           have HMS:=Lib.hid (message_any seq hq0 hq1 (bits .or .i64 items 1) uid (flX M' uid 1 8) ⟨hu0,hu1x⟩ ⟨HFX.out.1.1,by have:=HFX.out.1.2; omega⟩ yA yn yc yb (W3.setCell ⟨W1.heap.size,1,none⟩ (.int .u8 (flX M' uid 1 8))) (own3.fr hone fun b hb e=>own3.ne_blk bM3 (by decide) (by have e:b=W1.heap.size:=e; rw [hb,e])).rd HFX.out.2.1)
           have HE:=Lib.hid (And.intro hid3 hl3)
           clear hst3 hp3 hid3 hl3 bM3 bX3 own3 hone hs23)
        | fail)
       refine HMS.out.mono ?_
       rintro e W4 ⟨⟨rk,rn,rt,rst,rx,rit,rfl_,ruid,rsz,rA,rbn,rbc⟩,rfl,hrok,hk4,hn4,hit4,n4⟩
       dsimp only at hk4 hn4 hit4
       dsimp only [Rsp.val]
       have bX4:=n4.blk HT.out.2.2
       obtain ⟨⟨x0,y0⟩,⟨x1,y1⟩,⟨x2,y2⟩,⟨x3,y3⟩,⟨x4,y4⟩,⟨x5,y5⟩,⟨x6,y6⟩,⟨x7,y7⟩,⟨x8,y8⟩,⟨x9,y9⟩⟩:=cells10 bX4
       have HX:=Lib.hid (And.intro n4 (And.intro bX4 (And.intro hk4 (And.intro hn4 hit4))))
       have HRO:=Lib.hid hrok
       clear n4 bX4 hk4 hn4 hit4 hrok
       go_wp2_with fail
       have hb10:=blk10 HX.out.2.1 (.int .i64 rk) (.int .u32 rn) (.string rt) (.int .i64 rst) (.string rx) (.int .i64 rit) (.int .u8 rfl_) (.int .u32 ruid) (.int .u32 rsz) (.slice rA rbn rbc)
       have ho10:=one10 (w:=W4) (g:=W.heap.size) (.int .i64 rk) (.int .u32 rn) (.string rt) (.int .i64 rst) (.string rx) (.int .i64 rit) (.int .u8 rfl_) (.int .u32 ruid) (.int .u32 rsz) (.slice rA rbn rbc)
       have hst2:=(HT.out.1.more HX.out.1).one_ ho10 HX.out.2.1 hbW hw0 (by decide) (by decide) (by decide) (by decide) (by decide) (by decide) (by decide)
       have hfin:Fr (S.foot Q') W ((((((((((W4.setCell ⟨W.heap.size,0,none⟩ (.int .i64 rk)).setCell ⟨W.heap.size,1,none⟩ (.int .u32 rn)).setCell ⟨W.heap.size,2,none⟩ (.string rt)).setCell ⟨W.heap.size,3,none⟩ (.int .i64 rst)).setCell ⟨W.heap.size,4,none⟩ (.string rx)).setCell ⟨W.heap.size,5,none⟩ (.int .i64 rit)).setCell ⟨W.heap.size,6,none⟩ (.int .u8 rfl_)).setCell ⟨W.heap.size,7,none⟩ (.int .u32 ruid)).setCell ⟨W.heap.size,8,none⟩ (.int .u32 rsz)).setCell ⟨W.heap.size,9,none⟩ (.slice rA rbn rbc)):=Fr.trans' (Fr.trans' HT.out.2.1.fr HX.out.1 fun _ _ h=>h.elim) ho10 fun i hi e=>by have e:i=W.heap.size:=e; omega
       refine bodyPost_ret (results_cell_tmp2 rfl _ _ rfl rfl rfl (loadR hb10)) rfl ?_
       exact ⟨⟨rk,rn,rt,rst,rx,rit,rfl_,ruid,rsz,rA,rbn,rbc⟩,true,true,Q3,_,rfl,fun _=>⟨⟨HX.out.2.2.1,HX.out.2.2.2.1,fun h=>(HX.out.2.2.2.2 h).1⟩,(HRO.out.mono HT.out.2.1.fr.size).one ho10 HX.out.2.1 (by decide)⟩,H.out.step hst2 ⟨hfin,HT.out.2.1.gr,rfl,rfl⟩ HC.out.2.2.2.1 HE.out.1 (fun i=>⟨_,HE.out.2 i,chEv_one _ _ _ _ _ _ _ hu0 hu1 (by omega)⟩) (flM_uids _ _ _ _),hfin⟩
end Go.Proofs.YtliimglbbiebiaaGreatDoor
end

section
namespace Go.Proofs.YtliimglbbiebiaaGreatDoor
open Go.RowKit Go.Maps
def EvR (r:Rsp):Prop:=bits .and .i64 r.it 2=0
def EvO (B:Nat) (W:World) (r:Rsp) (ok:Bool):Prop:=EvR r∧(ok=true→RspOk B W r)
structure VwS (P2:Prop) (w w':World) (v x:Nat) (u:Value) (l:List Int) (uid:Int) (g':Bool) (u':Value) (l':List Int):Prop where
 vw:VW w' v x g'
 ix:IdxU 0 w' x u' l'
 asc:Asc l'
 len:l'.length≤l.length + 1
 mem:∀ y ∈ l',y ∈ l∨y=uid
 fr:Fr (fun k=>k=v∨k=x∨u.ownBlock=some k) w w'
 st:Stays w u u'
 pre:P2→l <+: l'
section
variable {w:World} {v x:Nat} {g:Bool} {u:Value} {l:List Int}
theorem placeOf_bd (l:List Int) (u:Int):0≤placeOf l u∧placeOf l u≤l.length:=by
 unfold placeOf
 split
 · rename_i h
   have:=List.idxOf_lt_length_iff.2 h
   omega
 · omega
theorem gone_any (hv:VW w v x g) (hi:IdxU 0 w x u l) (ha:Asc l) (hl:l.length≤50000) (k uid fl:Int) :
 Calls Tryz.prog 178 #[.pointer (some ⟨v,0,none⟩),.agg #[.int .i64 k,.int .u32 uid,.int .u8 fl]] w fun e w'=>∃ (r:Rsp) (ok:Bool),e=.returned (.tuple #[r.val,.bool ok])∧EvO w.heap.size w' r ok∧∃ u' l',VwS False w w' v x u l uid g u' l':=by
 have hpb:=placeOf_bd l uid
 obtain ⟨wA,hwA⟩:∃ wA,wA=(w.alloc (.cells #[.int .i64 k,.int .u32 uid,.int .u8 fl] 232)).alloc (.cells #[.int .i64 0,.int .u32 0,.string ⟨#[]⟩,.int .i64 0,.string ⟨#[]⟩,.int .i64 0,.int .u8 0,.int .u32 0,.int .u32 0,.slice none 0 0] 53):=⟨_,rfl⟩
 have n0:New w wA:=hwA ▸ ((New.refl w).alloc _).alloc _
 have e0:Blk wA w.heap.size 232 #[.int .i64 k,.int .u32 uid,.int .u8 fl]:=hwA ▸ (Blk.new _ _ _).alloc _
 have r0:Blk wA (w.heap.size + 1) 53 #[.int .i64 0,.int .u32 0,.string ⟨#[]⟩,.int .i64 0,.string ⟨#[]⟩,.int .i64 0,.int .u8 0,.int .u32 0,.int .u32 0,.slice none 0 0]:=hwA ▸ Blk.new1 _ _ _ _
 have hvA:=n0.blk hv
 have hiA:=hi.new n0
 have a0:wA.cell? ⟨v,0,none⟩=some (.pointer (some ⟨x,0,none⟩)):=hvA.cell 0
 have a1:wA.cell? ⟨w.heap.size,1,none⟩=some (.int .u32 uid):=e0.cell 1
 have HI:=Lib.hid hi
 have HA:=Lib.hid hiA
 clear hi hiA
 go_enter Tryz.func178,Tryz.ntmps178
 go_wp2_with fail
 rw [← hwA]
 clear hwA
 go_region_held3 (fun W=>W.cell? ⟨v,0,none⟩=some (.pointer (some ⟨x,0,none⟩))∧W.cell? ⟨w.heap.size,1,none⟩=some (.int .u32 uid)) (first | go_keep | (refine ⟨?_,?_⟩ <;> assumption)) ((first
  | (go_at_call 194
     refine (qrm (HA.out.new (by repeat' first | exact New.refl _ | assumption | apply Fr.alloc | apply Fr.drewN | apply Fr.drew)) ha (by omega) uid).mono ?_
     rintro e w2 ⟨u',rfl,hi2,f2,st2⟩
     have F2:IFr x u wA w2:=Fr.trans (New.to (by repeat' first | exact New.refl _ | assumption | apply Fr.alloc | apply Fr.drewN | apply Fr.drew)) f2
     have hv2:=F2.blk hvA (by
      rintro (e | e)
      · exact hvA.ne_ HA.out.1 (by decide) e
      · obtain ⟨cs,hcs⟩:=HA.out.2.1.heap e
        exact hvA.ne_ hcs (by decide) rfl)
     have r2:=F2.blk r0 (by
      rintro (e | e)
      · exact r0.ne_ HA.out.1 (by decide) e
      · obtain ⟨cs,hcs⟩:=HA.out.2.1.heap e
        exact r0.ne_ hcs (by decide) rfl)
     have e2:=F2.blk e0 (by
      rintro (e | e)
      · exact e0.ne_ HA.out.1 (by decide) e
      · obtain ⟨cs,hcs⟩:=HA.out.2.1.heap e
        exact e0.ne_ hcs (by decide) rfl)
     have p2:w2.cell? ⟨w.heap.size,1,none⟩=some (.int .u32 uid):=e2.cell 1
     have p3:w2.cell? ⟨w.heap.size,2,none⟩=some (.int .u8 fl):=e2.cell 2
     have p0:w2.cell? ⟨v,0,none⟩=some (.pointer (some ⟨x,0,none⟩)):=hv2.cell 0
     have HI2:=Lib.hid hi2
     have HF2:=Lib.hid F2
     have HS2:=Lib.hid st2
     clear hi2 f2 F2 st2)
  | fail))
 have hst:Stays w u u':=by
  rcases HS2.out with e1 | ⟨b',e1,e2⟩
  · exact .inl e1
  · exact .inr ⟨b',e1,by have:=n0.size; have e3:wA.drew.heap.size=wA.heap.size:=rfl; omega⟩
 have hgt:decide (0 < placeOf l uid)=decide (0 < placeOf l uid):=rfl
 clear hgt
 obtain ⟨q,hq⟩:∃ q:Nat,placeOf l uid=q:=⟨(placeOf l uid).toNat,by omega⟩
 rw [hq] at hpb ⊢
 clear hq
 have HF:=Lib.hid (And.intro hv2 (And.intro r2 (And.intro n0 hst)))
 have hq4:(q:Int)≤50000:=by omega
 clear hv2 r2 e2 p2 p3 p0 HS2 hst hvA r0 e0 a0 a1 n0 hpb
 go_wp2_with fail
 refine (count_rsp 3 q (by omega) _).mono ?_
 rintro e w3 ⟨rfl,n3⟩
 dsimp only [Rsp.val]
 have r3:=n3.blk HF.out.2.1
 obtain ⟨⟨x0,y0⟩,⟨x1,y1⟩,⟨x2,y2⟩,⟨x3,y3⟩,⟨x4,y4⟩,⟨x5,y5⟩,⟨x6,y6⟩,⟨x7,y7⟩,⟨x8,y8⟩,⟨x9,y9⟩⟩:=cells10 r3
 have HX:=Lib.hid (And.intro n3 r3)
 clear n3 r3
 go_wp2_with fail
 have hR:=blk10 HX.out.2 (.int .i64 3) (.int .u32 q) (.string ⟨#[]⟩) (.int .i64 0) (.string ⟨#[]⟩) (.int .i64 0) (.int .u8 0) (.int .u32 0) (.int .u32 0) (.slice none 0 0)
 have hO:=one10 (w:=w3) (g:=w.heap.size + 1) (.int .i64 3) (.int .u32 q) (.string ⟨#[]⟩) (.int .i64 0) (.string ⟨#[]⟩) (.int .i64 0) (.int .u8 0) (.int .u32 0) (.int .u32 0) (.slice none 0 0)
 have hsv:=hv.lt
 have hsx:=HI.out.1.lt
 refine bodyPost_ret (results_cellt rfl _ _ rfl rfl (loadR hR)) rfl ?_
 refine ⟨⟨3,q,⟨#[]⟩,0,⟨#[]⟩,0,0,0,0,none,0,0⟩,_,rfl,⟨(show bits .and .i64 0 2=0 by decide),fun _=>RspOk.bare _ _ 3 q (by decide) ⟨by omega,by omega⟩⟩,u',_,{ vw:=hO.blk (HX.out.1.blk HF.out.1) (by omega),ix:=(HI2.out.new HX.out.1).fr hO (by omega) (fun b hb e=>?_),asc:=ha.filter _,len:=Nat.le_succ_of_le (List.length_filter_le _ _),mem:=fun y hy=>.inl (List.mem_filter.1 hy).1,fr:=Fr.trans' (Fr.trans' (Fr.trans (New.to HF.out.2.2.1) (HF2.out.mono fun k _ h=>.inr h)) HX.out.1 fun _ _ h=>h.elim) hO (fun i hi e=>by have e:i=w.heap.size + 1:=e; omega),st:=HF.out.2.2.2,pre:=fun h=>h.elim }⟩
 have e:b=w.heap.size + 1:=e
 subst e
 obtain ⟨cs,hcs⟩:=(HI2.out.new HX.out.1).2.1.heap hb
 exact hcs.ne_ (HX.out.1.blk HF.out.2.1) (by decide) rfl
theorem changed_any (hv:VW w v x g) (hi:IdxU 0 w x u l) (ha:Asc l) (hl:l.length≤50000) (k uid fl:Int) (hf:0≤fl∧fl≤255) :
 Calls Tryz.prog 179 #[.pointer (some ⟨v,0,none⟩),.agg #[.int .i64 k,.int .u32 uid,.int .u8 fl]] w fun e w'=>∃ (r:Rsp) (ok:Bool),e=.returned (.tuple #[r.val,.bool ok])∧EvO w.heap.size w' r ok∧∃ u' l',VwS True w w' v x u l uid g u' l':=by
 have hpb:=placeOf_bd l uid
 obtain ⟨wA,hwA⟩:∃ wA,wA=(w.alloc (.cells #[.int .i64 k,.int .u32 uid,.int .u8 fl] 232)).alloc (.cells #[.int .i64 0,.int .u32 0,.string ⟨#[]⟩,.int .i64 0,.string ⟨#[]⟩,.int .i64 0,.int .u8 0,.int .u32 0,.int .u32 0,.slice none 0 0] 53):=⟨_,rfl⟩
 have n0:New w wA:=hwA ▸ ((New.refl w).alloc _).alloc _
 have e0:Blk wA w.heap.size 232 #[.int .i64 k,.int .u32 uid,.int .u8 fl]:=hwA ▸ (Blk.new _ _ _).alloc _
 have r0:Blk wA (w.heap.size + 1) 53 #[.int .i64 0,.int .u32 0,.string ⟨#[]⟩,.int .i64 0,.string ⟨#[]⟩,.int .i64 0,.int .u8 0,.int .u32 0,.int .u32 0,.slice none 0 0]:=hwA ▸ Blk.new1 _ _ _ _
 have hvA:=n0.blk hv
 have hiA:=hi.new n0
 have a0:wA.cell? ⟨v,0,none⟩=some (.pointer (some ⟨x,0,none⟩)):=hvA.cell 0
 have a1:wA.cell? ⟨w.heap.size,1,none⟩=some (.int .u32 uid):=e0.cell 1
 have HI:=Lib.hid hi
 have HA:=Lib.hid hiA
 clear hi hiA
 go_enter Tryz.func179,Tryz.ntmps179
 go_wp2_with fail
 rw [← hwA]
 clear hwA
 go_region_held3 (fun W=>W.cell? ⟨v,0,none⟩=some (.pointer (some ⟨x,0,none⟩))∧W.cell? ⟨w.heap.size,1,none⟩=some (.int .u32 uid)) (first | go_keep | (refine ⟨?_,?_⟩ <;> assumption)) ((first
  | (go_at_call 226
     refine (qpos (HA.out.new (by repeat' first | exact New.refl _ | assumption | apply Fr.alloc | apply Fr.drewN | apply Fr.drew)) ha (by omega) uid).mono ?_
     rintro e w2 ⟨rfl,f2⟩
     have F2:New wA w2:=Fr.trans (by repeat' first | exact New.refl _ | assumption | apply Fr.alloc | apply Fr.drewN | apply Fr.drew) f2
     have hv2:=F2.blk hvA
     have r2:=F2.blk r0
     have e2:=F2.blk e0
     have p2:w2.cell? ⟨w.heap.size,1,none⟩=some (.int .u32 uid):=e2.cell 1
     have p3:w2.cell? ⟨w.heap.size,2,none⟩=some (.int .u8 fl):=e2.cell 2
     have p0:w2.cell? ⟨v,0,none⟩=some (.pointer (some ⟨x,0,none⟩)):=hv2.cell 0
     have HF2:=Lib.hid (n0.trans F2)
     clear F2)
  | fail))
 obtain ⟨q,hq⟩:∃ q:Nat,placeOf l uid=q:=⟨(placeOf l uid).toNat,by omega⟩
 rw [hq] at hpb ⊢
 clear hq
 have HF:=Lib.hid (And.intro hv2 (And.intro r2 (HI.out.new HF2.out)))
 have hq4:(q:Int)≤50000:=by omega
 clear hv2 r2 e2 p2 p0 hvA r0 e0 a0 a1 n0 hpb
 go_wp2_with fail
 refine (message_any q (by omega) (by omega) 1 0 fl ⟨by omega,by omega⟩ hf none 0 0 [] _ (Rd.nil _ _) (by simp)).mono ?_
 rintro e w3 ⟨⟨rk,rn,rt,rst,rx,rit,rfl_,ruid,rsz,rA,rbn,rbc⟩,rfl,hrok,hk4,hn4,hit4,n3⟩
 dsimp only at hk4 hn4 hit4
 dsimp only [Rsp.val]
 have r3:=n3.blk HF.out.2.1
 obtain ⟨⟨x0,y0⟩,⟨x1,y1⟩,⟨x2,y2⟩,⟨x3,y3⟩,⟨x4,y4⟩,⟨x5,y5⟩,⟨x6,y6⟩,⟨x7,y7⟩,⟨x8,y8⟩,⟨x9,y9⟩⟩:=cells10 r3
 have HX:=Lib.hid (And.intro n3 (And.intro r3 hit4))
 have HRO:=Lib.hid hrok
 clear n3 r3 hk4 hn4 hit4 p3 hrok
 go_wp2_with fail
 have hR:=blk10 HX.out.2.1 (.int .i64 rk) (.int .u32 rn) (.string rt) (.int .i64 rst) (.string rx) (.int .i64 rit) (.int .u8 rfl_) (.int .u32 ruid) (.int .u32 rsz) (.slice rA rbn rbc)
 have hO:=one10 (w:=w3) (g:=w.heap.size + 1) (.int .i64 rk) (.int .u32 rn) (.string rt) (.int .i64 rst) (.string rx) (.int .i64 rit) (.int .u8 rfl_) (.int .u32 ruid) (.int .u32 rsz) (.slice rA rbn rbc)
 have hsv:=hv.lt
 have hsx:=HI.out.1.lt
 have hit:bits .and .i64 rit 2=0:=Decidable.byContradiction fun h=>absurd (by decide:bits .and .i64 1 2=0) ((HX.out.2.2 h).2 (by decide))
 refine bodyPost_ret (results_cellt rfl _ _ rfl rfl (loadR hR)) rfl ?_
 refine ⟨⟨rk,rn,rt,rst,rx,rit,rfl_,ruid,rsz,rA,rbn,rbc⟩,_,rfl,⟨hit,fun _=>(HRO.out.mono HF2.out.size).one hO HX.out.2.1 (by decide)⟩,u,l,{ vw:=hO.blk (HX.out.1.blk HF.out.1) (by omega),ix:=(HF.out.2.2.new HX.out.1).fr hO (by omega) (fun b hb e=>?_),asc:=ha,len:=Nat.le_succ _,mem:=fun y hy=>.inl hy,fr:=Fr.trans' (New.to (HF2.out.trans HX.out.1)) hO (fun i hi e=>by have e:i=w.heap.size + 1:=e; omega),st:=.inl rfl,pre:=fun _=>List.prefix_rfl }⟩
 have e:b=w.heap.size + 1:=e
 subst e
 obtain ⟨cs,hcs⟩:=(HF.out.2.2.new HX.out.1).2.1.heap hb
 exact hcs.ne_ (HX.out.1.blk HF.out.2.1) (by decide) rfl
theorem arrived_true (hv:VW w v x g) (hi:IdxU 0 w x u l) (ha:Asc l) (hl:l.length≤50000) (k uid fl:Int) (hb:(appP l uid).2=true) :
 Calls Tryz.prog 177 #[.pointer (some ⟨v,0,none⟩),.agg #[.int .i64 k,.int .u32 uid,.int .u8 fl]] w fun e w'=>∃ (r:Rsp) (ok:Bool),e=.returned (.tuple #[r.val,.bool ok])∧EvO w.heap.size w' r ok∧∃ u' l',VwS True w w' v x u l uid true u' l':=by
 obtain ⟨wA,hwA⟩:∃ wA,wA=(w.alloc (.cells #[.int .i64 k,.int .u32 uid,.int .u8 fl] 232)).alloc (.cells #[.int .i64 0,.int .u32 0,.string ⟨#[]⟩,.int .i64 0,.string ⟨#[]⟩,.int .i64 0,.int .u8 0,.int .u32 0,.int .u32 0,.slice none 0 0] 53):=⟨_,rfl⟩
 have n0:New w wA:=hwA ▸ ((New.refl w).alloc _).alloc _
 have e0:Blk wA w.heap.size 232 #[.int .i64 k,.int .u32 uid,.int .u8 fl]:=hwA ▸ (Blk.new _ _ _).alloc _
 have r0:Blk wA (w.heap.size + 1) 53 #[.int .i64 0,.int .u32 0,.string ⟨#[]⟩,.int .i64 0,.string ⟨#[]⟩,.int .i64 0,.int .u8 0,.int .u32 0,.int .u32 0,.slice none 0 0]:=hwA ▸ Blk.new1 _ _ _ _
 have hvA:=n0.blk hv
 have hiA:=hi.new n0
 have a0:wA.cell? ⟨v,0,none⟩=some (.pointer (some ⟨x,0,none⟩)):=hvA.cell 0
 have a1:wA.cell? ⟨w.heap.size,1,none⟩=some (.int .u32 uid):=e0.cell 1
 have HI:=Lib.hid hi
 have HA:=Lib.hid hiA
 clear hi hiA
 have HQ:Hid (∀ W,IdxU 0 W x u l→Calls Tryz.prog 189 #[.pointer (some ⟨x,0,none⟩),.int .u32 uid] W fun e w'=>∃ u',e=.returned (.bool true)∧IdxU 0 w' x u' (appP l uid).1∧IFr x u W w'∧Stays W u u'):=Lib.hid fun W hW=>by
  have:=qapp hW ha (Nat.zero_le _) (by omega) uid
  rwa [hb] at this
 have hal:=ha.app uid
 have hln:=appP_length l uid
 have hmm:∀ y ∈ (appP l uid).1,y ∈ l∨y=uid:=by
  intro y hy
  unfold appP at hy
  split at hy
  · exact .inl hy
  · exact (List.mem_append.1 hy).imp id List.mem_singleton.1
 have hpp:l <+: (appP l uid).1:=by
  unfold appP
  split
  · exact List.prefix_rfl
  · exact List.prefix_append _ _
 generalize (appP l uid).1=la at *
 have HM:=Lib.hid (And.intro hal (And.intro hln (And.intro hmm hpp)))
 clear hal hln hmm hb hpp
 go_enter Tryz.func177,Tryz.ntmps177
 go_wp2_with fail
 rw [← hwA]
 clear hwA
 go_region_held3 (fun W=>W.cell? ⟨v,0,none⟩=some (.pointer (some ⟨x,0,none⟩))∧W.cell? ⟨w.heap.size,1,none⟩=some (.int .u32 uid)) (first | go_keep | (refine ⟨?_,?_⟩ <;> assumption)) ((first
  | (go_at_call 189
     refine (HQ.out _ (HA.out.new (by repeat' first | exact New.refl _ | assumption | apply Fr.alloc | apply Fr.drewN | apply Fr.drew))).mono ?_
     rintro e w2 ⟨u',rfl,hi2,f2,st2⟩
     have F2:IFr x u wA w2:=Fr.trans (New.to (by repeat' first | exact New.refl _ | assumption | apply Fr.alloc | apply Fr.drewN | apply Fr.drew)) f2
     have hv2:=F2.blk hvA (by
      rintro (e | e)
      · exact hvA.ne_ HA.out.1 (by decide) e
      · obtain ⟨cs,hcs⟩:=HA.out.2.1.heap e
        exact hvA.ne_ hcs (by decide) rfl)
     have r2:=F2.blk r0 (by
      rintro (e | e)
      · exact r0.ne_ HA.out.1 (by decide) e
      · obtain ⟨cs,hcs⟩:=HA.out.2.1.heap e
        exact r0.ne_ hcs (by decide) rfl)
     have e2:=F2.blk e0 (by
      rintro (e | e)
      · exact e0.ne_ HA.out.1 (by decide) e
      · obtain ⟨cs,hcs⟩:=HA.out.2.1.heap e
        exact e0.ne_ hcs (by decide) rfl)
     have p2:w2.cell? ⟨w.heap.size,1,none⟩=some (.int .u32 uid):=e2.cell 1
     have p3:w2.cell? ⟨w.heap.size,2,none⟩=some (.int .u8 fl):=e2.cell 2
     have p0:w2.cell? ⟨v,0,none⟩=some (.pointer (some ⟨x,0,none⟩)):=hv2.cell 0
     have p1:w2.cell? ⟨v,1,none⟩=some (.bool g):=hv2.cell 1
     have f1:w2.frozen? ⟨v,1,none⟩=false:=hv2.frozen 1
     have HI2:=Lib.hid hi2
     have HF2:=Lib.hid F2
     have HS2:=Lib.hid st2
     clear hi2 f2 F2 st2)
  | fail))
 have hvs:VW (w2.setCell ⟨v,1,none⟩ (.bool true)) v x true:=hv2.set_ 1 _
 have rs:=r2.far (p:=⟨v,1,none⟩) (by show w.heap.size + 1≠v; have:=hv.lt; omega) (.bool true)
 have hsv:=hv.lt
 have hsx:=HI.out.1.lt
 have hOne:One v w2 (w2.setCell ⟨v,1,none⟩ (.bool true)):=(One.refl v w2).set 1 _
 have his:=HI2.out.fr hOne (HI.out.1.ne_ hv (by decide)) (fun b hb e=>by
  subst e
  rcases HS2.out with e1 | ⟨b',e1,e2⟩
  · rw [e1] at hb
    obtain ⟨cs,hcs⟩:=HI.out.2.1.heap hb
    exact hcs.ne_ hv (by decide) rfl
  · rw [e1] at hb; injection hb with hb; have:=n0.size; have e3:wA.drew.heap.size=wA.heap.size:=rfl; omega)
 have hst:Stays w u u':=by
  rcases HS2.out with e1 | ⟨b',e1,e2⟩
  · exact .inl e1
  · exact .inr ⟨b',e1,by have:=n0.size; have e3:wA.drew.heap.size=wA.heap.size:=rfl; omega⟩
 have HF3:Fr (fun k=>k=v∨k=x∨u.ownBlock=some k) w (w2.setCell ⟨v,1,none⟩ (.bool true)):=Fr.trans (Fr.trans (New.to n0) (HF2.out.mono fun k _ h=>.inr h)) (hOne.mono fun k _ h=>.inl h)
 have hsz3:w.heap.size + 1 < (w2.setCell ⟨v,1,none⟩ (.bool true)).heap.size:=rs.lt
 have HIS:=Lib.hid his
 have HST:=Lib.hid hst
 have HF3':=Lib.hid HF3
 clear hv2 r2 p2 p3 e2 HS2 HF2 HI2 his hst HF3 hOne
 obtain ⟨q0,q1,q2,q3,q4,q5,q6,q7,q8,q9⟩:=rs.all10
 have ff:=rs.froz
 go_wp2
 clear q0 q1 q2 q3 q4 q5 q6 q7 q8 q9 ff p0 p1 f1
 generalize (w2.setCell ⟨v,1,none⟩ (.bool true))=w3 at *
 have hR:=rs.over10 (.int .i64 0) (.int .u32 0) (.string ⟨#[]⟩) (.int .i64 0) (.string ⟨#[]⟩) (.int .i64 0) (.int .u8 0) (.int .u32 0) (.int .u32 0) (.slice none 0 0)
 have hO:=One.over10 w3 (w.heap.size + 1) (.int .i64 0) (.int .u32 0) (.string ⟨#[]⟩) (.int .i64 0) (.string ⟨#[]⟩) (.int .i64 0) (.int .u8 0) (.int .u32 0) (.int .u32 0) (.slice none 0 0)
 refine bodyPost_ret (results_cellt rfl _ _ rfl rfl (loadR hR)) rfl ?_
 refine ⟨⟨0,0,⟨#[]⟩,0,⟨#[]⟩,0,0,0,0,none,0,0⟩,false,rfl,⟨(show bits .and .i64 0 2=0 by decide),fun h=>by cases h⟩,u',la,{ vw:=hO.blk hvs (by omega),ix:=HIS.out.fr hO (by omega) (fun b hb e=>?_),asc:=HM.out.1,len:=HM.out.2.1,mem:=HM.out.2.2.1,fr:=Fr.trans' HF3'.out hO (fun i hi e=>by have e:i=w.heap.size + 1:=e; omega),st:=HST.out,pre:=fun _=>HM.out.2.2.2 }⟩
 have e:b=w.heap.size + 1:=e
 subst e
 obtain ⟨cs,hcs⟩:=HIS.out.2.1.heap hb
 exact hcs.ne_ rs (by decide) rfl
theorem arrived_false (hv:VW w v x g) (hi:IdxU 0 w x u l) (ha:Asc l) (hl:l.length≤50000) (k uid fl:Int) (hb:(appP l uid).2=false) :
 Calls Tryz.prog 177 #[.pointer (some ⟨v,0,none⟩),.agg #[.int .i64 k,.int .u32 uid,.int .u8 fl]] w fun e w'=>∃ (r:Rsp) (ok:Bool),e=.returned (.tuple #[r.val,.bool ok])∧EvO w.heap.size w' r ok∧∃ u' l',VwS True w w' v x u l uid g u' l':=by
 obtain ⟨wA,hwA⟩:∃ wA,wA=(w.alloc (.cells #[.int .i64 k,.int .u32 uid,.int .u8 fl] 232)).alloc (.cells #[.int .i64 0,.int .u32 0,.string ⟨#[]⟩,.int .i64 0,.string ⟨#[]⟩,.int .i64 0,.int .u8 0,.int .u32 0,.int .u32 0,.slice none 0 0] 53):=⟨_,rfl⟩
 have n0:New w wA:=hwA ▸ ((New.refl w).alloc _).alloc _
 have e0:Blk wA w.heap.size 232 #[.int .i64 k,.int .u32 uid,.int .u8 fl]:=hwA ▸ (Blk.new _ _ _).alloc _
 have r0:Blk wA (w.heap.size + 1) 53 #[.int .i64 0,.int .u32 0,.string ⟨#[]⟩,.int .i64 0,.string ⟨#[]⟩,.int .i64 0,.int .u8 0,.int .u32 0,.int .u32 0,.slice none 0 0]:=hwA ▸ Blk.new1 _ _ _ _
 have hvA:=n0.blk hv
 have hiA:=hi.new n0
 have a0:wA.cell? ⟨v,0,none⟩=some (.pointer (some ⟨x,0,none⟩)):=hvA.cell 0
 have a1:wA.cell? ⟨w.heap.size,1,none⟩=some (.int .u32 uid):=e0.cell 1
 have HI:=Lib.hid hi
 have HA:=Lib.hid hiA
 clear hi hiA
 have HQ:Hid (∀ W,IdxU 0 W x u l→Calls Tryz.prog 189 #[.pointer (some ⟨x,0,none⟩),.int .u32 uid] W fun e w'=>∃ u',e=.returned (.bool false)∧IdxU 0 w' x u' (appP l uid).1∧IFr x u W w'∧Stays W u u'):=Lib.hid fun W hW=>by
  have:=qapp hW ha (Nat.zero_le _) (by omega) uid
  rwa [hb] at this
 have hal:=ha.app uid
 have hln:=appP_length l uid
 have hmm:∀ y ∈ (appP l uid).1,y ∈ l∨y=uid:=by
  intro y hy
  unfold appP at hy
  split at hy
  · exact .inl hy
  · exact (List.mem_append.1 hy).imp id List.mem_singleton.1
 have hpp:l <+: (appP l uid).1:=by
  unfold appP
  split
  · exact List.prefix_rfl
  · exact List.prefix_append _ _
 generalize (appP l uid).1=la at *
 have HM:=Lib.hid (And.intro hal (And.intro hln (And.intro hmm hpp)))
 clear hal hln hmm hb hpp
 go_enter Tryz.func177,Tryz.ntmps177
 go_wp2_with fail
 rw [← hwA]
 clear hwA
 go_region_held3 (fun W=>W.cell? ⟨v,0,none⟩=some (.pointer (some ⟨x,0,none⟩))∧W.cell? ⟨w.heap.size,1,none⟩=some (.int .u32 uid)) (first | go_keep | (refine ⟨?_,?_⟩ <;> assumption)) ((first
  | (go_at_call 189
     refine (HQ.out _ (HA.out.new (by repeat' first | exact New.refl _ | assumption | apply Fr.alloc | apply Fr.drewN | apply Fr.drew))).mono ?_
     rintro e w2 ⟨u',rfl,hi2,f2,st2⟩
     have F2:IFr x u wA w2:=Fr.trans (New.to (by repeat' first | exact New.refl _ | assumption | apply Fr.alloc | apply Fr.drewN | apply Fr.drew)) f2
     have hv2:=F2.blk hvA (by
      rintro (e | e)
      · exact hvA.ne_ HA.out.1 (by decide) e
      · obtain ⟨cs,hcs⟩:=HA.out.2.1.heap e
        exact hvA.ne_ hcs (by decide) rfl)
     have r2:=F2.blk r0 (by
      rintro (e | e)
      · exact r0.ne_ HA.out.1 (by decide) e
      · obtain ⟨cs,hcs⟩:=HA.out.2.1.heap e
        exact r0.ne_ hcs (by decide) rfl)
     have e2:=F2.blk e0 (by
      rintro (e | e)
      · exact e0.ne_ HA.out.1 (by decide) e
      · obtain ⟨cs,hcs⟩:=HA.out.2.1.heap e
        exact e0.ne_ hcs (by decide) rfl)
     have p2:w2.cell? ⟨w.heap.size,1,none⟩=some (.int .u32 uid):=e2.cell 1
     have p3:w2.cell? ⟨w.heap.size,2,none⟩=some (.int .u8 fl):=e2.cell 2
     have p0:w2.cell? ⟨v,0,none⟩=some (.pointer (some ⟨x,0,none⟩)):=hv2.cell 0
     have p1:w2.cell? ⟨v,1,none⟩=some (.bool g):=hv2.cell 1
     have f1:w2.frozen? ⟨v,1,none⟩=false:=hv2.frozen 1
     have HI2:=Lib.hid hi2
     have HF2:=Lib.hid F2
     have HS2:=Lib.hid st2
     clear hi2 f2 F2 st2)
  | fail))
 have hvs:VW w2 v x g:=hv2
 have rs:=r2
 have hsv:=hv.lt
 have hsx:=HI.out.1.lt
 have hst:Stays w u u':=by
  rcases HS2.out with e1 | ⟨b',e1,e2⟩
  · exact .inl e1
  · exact .inr ⟨b',e1,by have:=n0.size; have e3:wA.drew.heap.size=wA.heap.size:=rfl; omega⟩
 have HF3:Fr (fun k=>k=v∨k=x∨u.ownBlock=some k) w w2:=Fr.trans (New.to n0) (HF2.out.mono fun k _ h=>.inr h)
 have hsz3:w.heap.size + 1 < w2.heap.size:=rs.lt
 have HIS:=HI2
 have HST:=Lib.hid hst
 have HF3':=Lib.hid HF3
 clear hv2 r2 p2 p3 e2 HS2 HF2 HI2 hst HF3
 obtain ⟨q0,q1,q2,q3,q4,q5,q6,q7,q8,q9⟩:=rs.all10
 have ff:=rs.froz
 go_wp2
 clear q0 q1 q2 q3 q4 q5 q6 q7 q8 q9 ff p0 p1 f1
 generalize w2=w3 at *
 have hR:=rs.over10 (.int .i64 0) (.int .u32 0) (.string ⟨#[]⟩) (.int .i64 0) (.string ⟨#[]⟩) (.int .i64 0) (.int .u8 0) (.int .u32 0) (.int .u32 0) (.slice none 0 0)
 have hO:=One.over10 w3 (w.heap.size + 1) (.int .i64 0) (.int .u32 0) (.string ⟨#[]⟩) (.int .i64 0) (.string ⟨#[]⟩) (.int .i64 0) (.int .u8 0) (.int .u32 0) (.int .u32 0) (.slice none 0 0)
 refine bodyPost_ret (results_cellt rfl _ _ rfl rfl (loadR hR)) rfl ?_
 refine ⟨⟨0,0,⟨#[]⟩,0,⟨#[]⟩,0,0,0,0,none,0,0⟩,false,rfl,⟨(show bits .and .i64 0 2=0 by decide),fun h=>by cases h⟩,u',la,{ vw:=hO.blk hvs (by omega),ix:=HIS.out.fr hO (by omega) (fun b hb e=>?_),asc:=HM.out.1,len:=HM.out.2.1,mem:=HM.out.2.2.1,fr:=Fr.trans' HF3'.out hO (fun i hi e=>by have e:i=w.heap.size + 1:=e; omega),st:=HST.out,pre:=fun _=>HM.out.2.2.2 }⟩
 have e:b=w.heap.size + 1:=e
 subst e
 obtain ⟨cs,hcs⟩:=HIS.out.2.1.heap hb
 exact hcs.ne_ rs (by decide) rfl
end
end Go.Proofs.YtliimglbbiebiaaGreatDoor
end

section
namespace Go.Proofs.YtliimglbbiebiaaGreatDoor
open Go.RowKit Go.Maps
section
variable {w:World} {v x:Nat} {u:Value} {l:List Int}
structure Ap (w wH:World) (v:Nat):Prop where
 n:New w wH
 b:Blk wH w.heap.size 55 #[.pointer (some ⟨v,0,none⟩)]
 o:Blk wH (w.heap.size + 1) 50 #[.slice none 0 0]
 a:Blk wH (w.heap.size + 1 + 1) 275 #[addF (w.heap.size + 1)]
 h:Blk wH (w.heap.size + 1 + 1 + 1) 278 #[.func (.func 176) #[.pointer (some ⟨v,0,none⟩)] #[],.func (.func 177) #[.pointer (some ⟨v,0,none⟩)] #[],.func (.func 178) #[.pointer (some ⟨v,0,none⟩)] #[],.func (.func 179) #[.pointer (some ⟨v,0,none⟩)] #[]]
theorem ap_any (w:World) (v:Nat):Ap w ((((w.alloc (.cells #[.pointer (some ⟨v,0,none⟩)] 55)).alloc (.cells #[.slice none 0 0] 50)).alloc (.cells #[.func (.func 174) #[] #[.pointer (some ⟨w.heap.size + 1,0,none⟩)]] 275)).alloc (.cells #[.func (.func 176) #[.pointer (some ⟨v,0,none⟩)] #[],.func (.func 177) #[.pointer (some ⟨v,0,none⟩)] #[],.func (.func 178) #[.pointer (some ⟨v,0,none⟩)] #[],.func (.func 179) #[.pointer (some ⟨v,0,none⟩)] #[]] 278)) v:=by
 refine ⟨((((New.refl w).alloc _).alloc _).alloc _).alloc _,(((Blk.new _ _ _).alloc _).alloc _).alloc _,((Blk.new1 _ _ _ _).alloc _).alloc _,?_,?_⟩
 · have:=Blk.new1 (w.alloc (.cells #[.pointer (some ⟨v,0,none⟩)] 55)) (.cells #[.slice none 0 0] 50) 275 #[addF (w.heap.size + 1)]
   rw [World.size_alloc] at this
   exact this.alloc _
 · have:=Blk.new1 ((w.alloc (.cells #[.pointer (some ⟨v,0,none⟩)] 55)).alloc (.cells #[.slice none 0 0] 50)) (.cells #[.func (.func 174) #[] #[.pointer (some ⟨w.heap.size + 1,0,none⟩)]] 275) 278 #[.func (.func 176) #[.pointer (some ⟨v,0,none⟩)] #[],.func (.func 177) #[.pointer (some ⟨v,0,none⟩)] #[],.func (.func 178) #[.pointer (some ⟨v,0,none⟩)] #[],.func (.func 179) #[.pointer (some ⟨v,0,none⟩)] #[]]
   rw [World.size_alloc,World.size_alloc] at this
   exact this
end
end Go.Proofs.YtliimglbbiebiaaGreatDoor
end

