/- A part of the proof: Put1, PutF, Msgs, So, So2. -/
import Derived.Test.YtliimglbbiebiaaGreatDoorGTopPairsAS
set_option maxRecDepth 100000
set_option maxHeartbeats 6400000
section
namespace Go.Proofs.YtliimglbbiebiaaGreatDoor
open Go.RowKit Go.Maps
theorem fput1_any {w0 w W:World} {base v x:Nat} {u:Value} {S:Sx} {Q Q':Qs} {M M':List Msg} {n t f:Int} {j:Nat} (h:GI w0 base v x u S Q M n t f j Q' M' w W)
 (hlt:∀ k,(k=v∨k=x∨u.ownBlock=some k)→k < W.heap.size) (hQ:∀ i ∈ Q'.ids,(Q'.l i).length≤100000000)
 {sb bb mb fb ib:Nat} {by_ mode fl:Int} {sil:Bool} (hs:Blk W sb 39 #[.pointer (some ⟨S.s,0,none⟩)]) (hb:Blk W bb 3 #[.int .i64 by_]) (hm:Blk W mb 3 #[.int .i64 mode]) (hf:Blk W fb 45 #[.int .u8 fl]) (hi:Blk W ib 4 #[.bool sil])
 (hib:base≤ib) (hmode:0≤mode∧mode≤2) (hfl:0≤fl∧fl≤31) (seq uid:Int) (hq0:0≤seq) (hq1:seq≤4294967295) (hu0:0≤uid) (hu1:uid < n) :
 Calls Tryz.prog 146 #[.int .i64 seq,.int .u32 uid,.pointer (some ⟨sb,0,none⟩),.pointer (some ⟨bb,0,none⟩),.pointer (some ⟨mb,0,none⟩),.pointer (some ⟨fb,0,none⟩),.pointer (some ⟨ib,0,none⟩)] W fun e W'=>∃ (r:Rsp) (told there:Bool) (Q'':Qs) (M'':List Msg),e=.returned (.tuple #[r.val,.bool told,.bool there]) ∧
  (told=true→(r.k=4∧r.n=seq∧(bits .and .i64 r.it 2≠0→r.uid=uid))∧RspOk W.heap.size W' r)∧GI w0 base v x u S Q M n t f (j + 1) Q'' M'' w W'∧Fr (S.foot Q') W W':=by
 have n0:New W (W.alloc (.cells #[.int .i64 0,.int .u32 0,.string ⟨#[]⟩,.int .i64 0,.string ⟨#[]⟩,.int .i64 0,.int .u8 0,.int .u32 0,.int .u32 0,.slice none 0 0] 53)):=(New.refl W).alloc _
 have q0:∀ o,(W.alloc o).cell? ⟨sb,0,none⟩=some (.pointer (some ⟨S.s,0,none⟩)):=fun o=>(hs.alloc o).cell 0
 have q1:∀ o,(W.alloc o).cell? ⟨bb,0,none⟩=some (.int .i64 by_):=fun o=>(hb.alloc o).cell 0
 have q2:∀ o,(W.alloc o).cell? ⟨mb,0,none⟩=some (.int .i64 mode):=fun o=>(hm.alloc o).cell 0
 have q3:∀ o,(W.alloc o).cell? ⟨fb,0,none⟩=some (.int .u8 fl):=fun o=>(hf.alloc o).cell 0
 have hst0:=h.st.more n0
 have bX:Blk (W.alloc (.cells #[.int .i64 0,.int .u32 0,.string ⟨#[]⟩,.int .i64 0,.string ⟨#[]⟩,.int .i64 0,.int .u8 0,.int .u32 0,.int .u32 0,.slice none 0 0] 53)) W.heap.size 53 #[.int .i64 0,.int .u32 0,.string ⟨#[]⟩,.int .i64 0,.string ⟨#[]⟩,.int .i64 0,.int .u8 0,.int .u32 0,.int .u32 0,.slice none 0 0]:=Blk.new _ _ _
 have hwfm:(Lit.int .i64 mode).wf=true:=by
  have:mode=0∨mode=1∨mode=2:=by omega
  rcases this with rfl | rfl | rfl <;> rfl
 have hu1x:uid≤4294967295:=by have:=h.st.n1; omega
 have HCH:=Lib.hid (schange_any hst0 hQ by_ uid mode fl hu0 hu1x ⟨by omega,by omega⟩ hwfm)
 have hfx:0≤flX M' uid mode fl∧flX M' uid mode fl≤31:=flX_ok (by omega)
 have HFX:=Lib.hid hfx
 have hiW:=n0.blk hi
 have HZ:=Lib.hid (And.intro hst0 (And.intro bX (And.intro hiW ((Stp.new n0:Stp W (W.alloc (.cells #[.int .i64 0,.int .u32 0,.string ⟨#[]⟩,.int .i64 0,.string ⟨#[]⟩,.int .i64 0,.int .u8 0,.int .u32 0,.int .u32 0,.slice none 0 0] 53)) S Q' S Q')))))
 have hbW:=h.st.hb
 have hw0:w0.heap.size≤W.heap.size:=h.st.new.size
 have H:=Lib.hid (And.intro h hlt)
 have hnX:=hst0.not_foot bX h.st.hb (by decide) (by decide) (by decide) (by decide) (by decide) (by decide)
 have hnI:=hst0.not_foot hiW hib (by decide) (by decide) (by decide) (by decide) (by decide) (by decide)
 have HN:=Lib.hid (And.intro hnX hnI)
 have hne:ib≠W.heap.size:=by have:=hi.lt; omega
 clear h hlt hQ hs hb hm hf hi hst0 bX hfx hiW hnX hnI n0
 go_enter Tryz.func146,Tryz.ntmps146
 go_wp2_with fail
 refine HCH.out.mono ?_
 rintro e W3 ⟨rfl,Q3,hst3,hp3,hid3,hl3⟩
 have bX3:=Fr.blk hp3.fr HZ.out.2.1 HN.out.1
 have bI3:=Fr.blk hp3.fr HZ.out.2.2.1 HN.out.2
 have HT:=Lib.hid (And.intro hst3 (And.intro (HZ.out.2.2.2.trans hp3) (And.intro bX3 (And.intro bI3 (And.intro hid3 hl3)))))
 clear hst3 hp3 bX3 bI3 hid3 hl3 q0 q1 q2 q3
 generalize hfX:flX M' uid mode fl=fX at *
 rcases hcz:(flC M' uid mode fl == 0) with _ | _
 all_goals
  generalize flC M' uid mode fl=cX at *
  go_upto_region 3 with fail
  go_region_law ((first
   | (go_simp
      go_at_call 144
      refine (message_any seq hq0 hq1 1 0 fX ⟨by omega,by omega⟩ ⟨HFX.out.1,by have:=HFX.out.2; omega⟩ none 0 0 [] _ (Rd.nil _ _) (by simp)).mono ?_
      rintro e W4 ⟨⟨rk,rn,rt,rst,rx,rit,rfl_,ruid,rsz,rA,rbn,rbc⟩,rfl,hrok,hk4,hn4,hit4,n4⟩
      dsimp only at hk4 hn4 hit4
      dsimp only [Rsp.val]
      have bX4:=n4.blk (Blk.drew HT.out.2.2.1)
      have bI4:=n4.blk (Blk.drew HT.out.2.2.2.1)
      obtain ⟨⟨x0,y0⟩,⟨x1,y1⟩,⟨x2,y2⟩,⟨x3,y3⟩,⟨x4,y4⟩,⟨x5,y5⟩,⟨x6,y6⟩,⟨x7,y7⟩,⟨x8,y8⟩,⟨x9,y9⟩⟩:=cells10 bX4
      have ho10:=one10 (w:=W4) (g:=W.heap.size) (.int .i64 rk) (.int .u32 rn) (.string rt) (.int .i64 rst) (.string rx) (.int .i64 rit) (.int .u8 rfl_) (.int .u32 ruid) (.int .u32 rsz) (.slice rA rbn rbc)
      have qi:W4.cell? ⟨ib,0,none⟩=some (.bool sil):=bI4.cell 0
      have qj:((((((((((W4.setCell ⟨W.heap.size,0,none⟩ (.int .i64 rk)).setCell ⟨W.heap.size,1,none⟩ (.int .u32 rn)).setCell ⟨W.heap.size,2,none⟩ (.string rt)).setCell ⟨W.heap.size,3,none⟩ (.int .i64 rst)).setCell ⟨W.heap.size,4,none⟩ (.string rx)).setCell ⟨W.heap.size,5,none⟩ (.int .i64 rit)).setCell ⟨W.heap.size,6,none⟩ (.int .u8 rfl_)).setCell ⟨W.heap.size,7,none⟩ (.int .u32 ruid)).setCell ⟨W.heap.size,8,none⟩ (.int .u32 rsz)).setCell ⟨W.heap.size,9,none⟩ (.slice rA rbn rbc)).cell? ⟨ib,0,none⟩=some (.bool sil):=(One.blk ho10 bI4 hne).cell 0
      have HRO:=Lib.hid hrok
      have HX:=Lib.hid (And.intro n4 (And.intro bX4 (And.intro bI4 (And.intro hk4 (And.intro hn4 hit4)))))
      clear n4 bX4 bI4 hk4 hn4 hit4 ho10 hrok
      go_wp2_with fail)
   | fail))
 all_goals
  go_wp2
  have hb10:=blk10 HX.out.2.1 (.int .i64 rk) (.int .u32 rn) (.string rt) (.int .i64 rst) (.string rx) (.int .i64 rit) (.int .u8 rfl_) (.int .u32 ruid) (.int .u32 rsz) (.slice rA rbn rbc)
  have ho10:=one10 (w:=W4) (g:=W.heap.size) (.int .i64 rk) (.int .u32 rn) (.string rt) (.int .i64 rst) (.string rx) (.int .i64 rit) (.int .u8 rfl_) (.int .u32 ruid) (.int .u32 rsz) (.slice rA rbn rbc)
  have n4:New W3 W4:=Fr.trans (Fr.drew (New.refl W3)) HX.out.1
  have hst2:=(HT.out.1.more n4).one_ ho10 HX.out.2.1 hbW hw0 (by decide) (by decide) (by decide) (by decide) (by decide) (by decide) (by decide)
  have hfin:Fr (S.foot Q') W ((((((((((W4.setCell ⟨W.heap.size,0,none⟩ (.int .i64 rk)).setCell ⟨W.heap.size,1,none⟩ (.int .u32 rn)).setCell ⟨W.heap.size,2,none⟩ (.string rt)).setCell ⟨W.heap.size,3,none⟩ (.int .i64 rst)).setCell ⟨W.heap.size,4,none⟩ (.string rx)).setCell ⟨W.heap.size,5,none⟩ (.int .i64 rit)).setCell ⟨W.heap.size,6,none⟩ (.int .u8 rfl_)).setCell ⟨W.heap.size,7,none⟩ (.int .u32 ruid)).setCell ⟨W.heap.size,8,none⟩ (.int .u32 rsz)).setCell ⟨W.heap.size,9,none⟩ (.slice rA rbn rbc)):=Fr.trans' (Fr.trans' HT.out.2.1.fr n4 fun _ _ h=>h.elim) ho10 fun i hi e=>by have e:i=W.heap.size:=e; omega
  refine bodyPost_ret (results_cell_tmp2 rfl _ _ rfl rfl rfl (loadR hb10)) rfl ?_
  exact ⟨⟨rk,rn,rt,rst,rx,rit,rfl_,ruid,rsz,rA,rbn,rbc⟩,_,_,Q3,_,rfl,fun _=>⟨⟨HX.out.2.2.2.1,HX.out.2.2.2.2.1,fun h=>absurd (by decide:bits .and .i64 1 2=0) ((HX.out.2.2.2.2.2 h).2 (by decide))⟩,(HRO.out.mono HT.out.2.1.fr.size).one ho10 HX.out.2.1 (by decide)⟩,H.out.1.step hst2 ⟨hfin,HT.out.2.1.gr,rfl,rfl⟩ H.out.2 HT.out.2.2.2.2.1 (fun i=>⟨_,HT.out.2.2.2.2.2 i,chEv_one _ _ _ _ _ _ _ hu0 hu1 (by omega)⟩) (flM_uids _ _ _ _),hfin⟩
end Go.Proofs.YtliimglbbiebiaaGreatDoor
end

section
namespace Go.Proofs.YtliimglbbiebiaaGreatDoor
open Go.RowKit Go.Maps
theorem fput_any {w0 W:World} {base v x:Nat} {g:Bool} {u:Value} {l:List Int} {S:Sx} {Q:Qs} {M:List Msg} {n t f:Int} (h:STX w0 base W S Q M n t f) (hvw:VW W v x g) (hix:IdxU 0 W x u l) (hl:l.length≤50000) (hlu:∀ y ∈ l,0≤y∧y < n)
 (hfar:∀ k,(k=v∨k=x∨u.ownBlock=some k)→¬ S.foot Q k) (hQ:∀ i ∈ Q.ids,(Q.l i).length + l.length≤100000000)
 (A:Option Addr) (c:Nat) (s:List Rg) (hv:Rd rgE W (.slice A s.length c) s) (hwf:∀ r ∈ s,r.wf) (hs:s.length≤100000) (by_ mode fl:Int) (sil:Bool) (hfl0:0≤fl) :
 Calls Tryz.prog 103 #[.pointer (some ⟨S.s,0,none⟩),.pointer (some ⟨v,0,none⟩),.int .i64 by_,.slice A s.length c,.int .i64 mode,.int .u8 fl,.bool sil] W fun e W'=>∃ vo lo code,e=.returned (.tuple #[vo,.int .i64 code])∧Own rspE 53 W.heap.size W' vo lo∧(∀ r ∈ lo,FetR l r∧RspOk W.heap.size W' r)∧lo.length≤l.length∧(code=0∨code=2∨code=3∨code=7) ∧
  ∃ j Q' M',j≤l.length∧GI w0 base v x u S Q M n t f j Q' M' W W'∧VW W' v x g∧IdxU 0 W' x u l:=by
 have hmf:∀ (fn:Fn) (first cap:Array Value) (w:World),(Instr.makeFunc fn first cap).run Tryz.prog w=.ok (.func fn first cap) w:=fun _ _ _ _=>rfl
 have hE:∀ args w,(callFunc 146 args).run Tryz.prog w=.ok (.enter 146 args) w:=enters_of Tryz.func146 (by kernel_rfl) rfl
 have H:=Lib.hid (And.intro h (And.intro hvw (And.intro hix (And.intro hfar hQ))))
 have HV:=Lib.hid (And.intro hv hwf)
 have HLU:=Lib.hid hlu
 clear h hvw hix hfar hQ hv hwf hlu
 go_enter Tryz.func103,Tryz.ntmps103
 by_cases h1:mode < 0
 · have d1:decide (mode < 0)=true:=decide_eq_true h1
   clear h1
   go_wp2_with fail
   go_ret2
   have n3:New W (((((W.alloc (.cells #[.pointer (some ⟨S.s,0,none⟩)] 39)).alloc (.cells #[.int .i64 by_] 3)).alloc (.cells #[.int .i64 mode] 3)).alloc (.cells #[.int .u8 fl] 45)).alloc (.cells #[.bool sil] 4)):=(((((New.refl W).alloc _).alloc _).alloc _).alloc _).alloc _
   exact ⟨_,[],2,rfl,Own.nil _ _ _ _,by simp,by simp,.inr (.inl rfl),0,Q,M,Nat.zero_le _,GI.init H.out.1 n3 H.out.2.2.2.1,n3.blk H.out.2.1,H.out.2.2.1.new n3⟩
 have d1:decide (mode < 0)=false:=decide_eq_false h1
 by_cases h2:2 < mode
 · have d2:decide (2 < mode)=true:=decide_eq_true h2
   clear h1 h2
   go_wp2_with fail
   go_ret2
   have n3:New W (((((W.alloc (.cells #[.pointer (some ⟨S.s,0,none⟩)] 39)).alloc (.cells #[.int .i64 by_] 3)).alloc (.cells #[.int .i64 mode] 3)).alloc (.cells #[.int .u8 fl] 45)).alloc (.cells #[.bool sil] 4)):=(((((New.refl W).alloc _).alloc _).alloc _).alloc _).alloc _
   exact ⟨_,[],2,rfl,Own.nil _ _ _ _,by simp,by simp,.inr (.inl rfl),0,Q,M,Nat.zero_le _,GI.init H.out.1 n3 H.out.2.2.2.1,n3.blk H.out.2.1,H.out.2.2.1.new n3⟩
 have d2:decide (2 < mode)=false:=decide_eq_false h2
 by_cases h3:31 < fl
 · have d3:decide (31 < fl)=true:=decide_eq_true h3
   clear h1 h2 h3
   go_wp2_with fail
   go_ret2
   have n3:New W (((((W.alloc (.cells #[.pointer (some ⟨S.s,0,none⟩)] 39)).alloc (.cells #[.int .i64 by_] 3)).alloc (.cells #[.int .i64 mode] 3)).alloc (.cells #[.int .u8 fl] 45)).alloc (.cells #[.bool sil] 4)):=(((((New.refl W).alloc _).alloc _).alloc _).alloc _).alloc _
   exact ⟨_,[],2,rfl,Own.nil _ _ _ _,by simp,by simp,.inr (.inl rfl),0,Q,M,Nat.zero_le _,GI.init H.out.1 n3 H.out.2.2.2.1,n3.blk H.out.2.1,H.out.2.2.1.new n3⟩
 have d3:decide (31 < fl)=false:=decide_eq_false h3
 go_wp2_with fail
 have n3:New W (((((W.alloc (.cells #[.pointer (some ⟨S.s,0,none⟩)] 39)).alloc (.cells #[.int .i64 by_] 3)).alloc (.cells #[.int .i64 mode] 3)).alloc (.cells #[.int .u8 fl] 45)).alloc (.cells #[.bool sil] 4)):=(((((New.refl W).alloc _).alloc _).alloc _).alloc _).alloc _
 have hW3:(((((W.alloc (.cells #[.pointer (some ⟨S.s,0,none⟩)] 39)).alloc (.cells #[.int .i64 by_] 3)).alloc (.cells #[.int .i64 mode] 3)).alloc (.cells #[.int .u8 fl] 45)).alloc (.cells #[.bool sil] 4)).heap.size=W.heap.size + 5:=by simp
 have hbW:=H.out.1.hb
 have hw0:=H.out.1.new.size
 have hsq:S.q < W.heap.size:=H.out.1.foot_lt (.inr (.inr (.inr (.inr (.inr (.inl rfl))))))
 have b1:Blk (((((W.alloc (.cells #[.pointer (some ⟨S.s,0,none⟩)] 39)).alloc (.cells #[.int .i64 by_] 3)).alloc (.cells #[.int .i64 mode] 3)).alloc (.cells #[.int .u8 fl] 45)).alloc (.cells #[.bool sil] 4)) (W.heap.size) 39 #[.pointer (some ⟨S.s,0,none⟩)]:=by
  have:=((((Blk.new W 39 #[.pointer (some ⟨S.s,0,none⟩)]).alloc (.cells #[.int .i64 by_] 3)).alloc (.cells #[.int .i64 mode] 3)).alloc (.cells #[.int .u8 fl] 45)).alloc (.cells #[.bool sil] 4)
  simpa only [World.size_alloc] using this
 have b2:Blk (((((W.alloc (.cells #[.pointer (some ⟨S.s,0,none⟩)] 39)).alloc (.cells #[.int .i64 by_] 3)).alloc (.cells #[.int .i64 mode] 3)).alloc (.cells #[.int .u8 fl] 45)).alloc (.cells #[.bool sil] 4)) (W.heap.size + 1) 3 #[.int .i64 by_]:=by
  have:=(((Blk.new (W.alloc (.cells #[.pointer (some ⟨S.s,0,none⟩)] 39)) 3 #[.int .i64 by_]).alloc (.cells #[.int .i64 mode] 3)).alloc (.cells #[.int .u8 fl] 45)).alloc (.cells #[.bool sil] 4)
  simpa only [World.size_alloc] using this
 have b3:Blk (((((W.alloc (.cells #[.pointer (some ⟨S.s,0,none⟩)] 39)).alloc (.cells #[.int .i64 by_] 3)).alloc (.cells #[.int .i64 mode] 3)).alloc (.cells #[.int .u8 fl] 45)).alloc (.cells #[.bool sil] 4)) (W.heap.size + 1 + 1) 3 #[.int .i64 mode]:=by
  have:=((Blk.new ((W.alloc (.cells #[.pointer (some ⟨S.s,0,none⟩)] 39)).alloc (.cells #[.int .i64 by_] 3)) 3 #[.int .i64 mode]).alloc (.cells #[.int .u8 fl] 45)).alloc (.cells #[.bool sil] 4)
  simpa only [World.size_alloc] using this
 have b4:Blk (((((W.alloc (.cells #[.pointer (some ⟨S.s,0,none⟩)] 39)).alloc (.cells #[.int .i64 by_] 3)).alloc (.cells #[.int .i64 mode] 3)).alloc (.cells #[.int .u8 fl] 45)).alloc (.cells #[.bool sil] 4)) (W.heap.size + 1 + 1 + 1) 45 #[.int .u8 fl]:=by
  have:=(Blk.new (((W.alloc (.cells #[.pointer (some ⟨S.s,0,none⟩)] 39)).alloc (.cells #[.int .i64 by_] 3)).alloc (.cells #[.int .i64 mode] 3)) 45 #[.int .u8 fl]).alloc (.cells #[.bool sil] 4)
  simpa only [World.size_alloc] using this
 have b5:Blk (((((W.alloc (.cells #[.pointer (some ⟨S.s,0,none⟩)] 39)).alloc (.cells #[.int .i64 by_] 3)).alloc (.cells #[.int .i64 mode] 3)).alloc (.cells #[.int .u8 fl] 45)).alloc (.cells #[.bool sil] 4)) (W.heap.size + 1 + 1 + 1 + 1) 4 #[.bool sil]:=by
  have:=Blk.new ((((W.alloc (.cells #[.pointer (some ⟨S.s,0,none⟩)] 39)).alloc (.cells #[.int .i64 by_] 3)).alloc (.cells #[.int .i64 mode] 3)).alloc (.cells #[.int .u8 fl] 45)) 4 #[.bool sil]
  simpa only [World.size_alloc] using this
 obtain ⟨bs,hbs⟩:∃ bs:List (Nat × TypeId × Value),bs=[(W.heap.size,39,.pointer (some ⟨S.s,0,none⟩)),(W.heap.size + 1,3,.int .i64 by_),(W.heap.size + 1 + 1,3,.int .i64 mode),(W.heap.size + 1 + 1 + 1,45,.int .u8 fl),(W.heap.size + 1 + 1 + 1 + 1,4,.bool sil)]:=⟨_,rfl⟩
 have hty:∀ b ∈ bs,(base≤b.1∧b.2.1≠94∧b.2.1≠155∧b.2.1≠163∧b.2.1≠28∧b.2.1≠351∧b.2.1≠232)∧(b.2.1≠50∧b.2.1≠198∧b.2.1≠53):=by
  intro b hb
  rw [hbs] at hb
  simp only [List.mem_cons,List.not_mem_nil,or_false] at hb
  rcases hb with rfl | rfl | rfl | rfl | rfl <;> dsimp only <;> exact ⟨⟨by omega,by decide,by decide,by decide,by decide,by decide,by decide⟩,by decide,by decide,by decide⟩
 have h0:FI w0 base v x g u l S Q M n t f 0 W bs (((((W.alloc (.cells #[.pointer (some ⟨S.s,0,none⟩)] 39)).alloc (.cells #[.int .i64 by_] 3)).alloc (.cells #[.int .i64 mode] 3)).alloc (.cells #[.int .u8 fl] 45)).alloc (.cells #[.bool sil] 4)) :=
  { gi:=⟨Q,M,GI.init H.out.1 n3 H.out.2.2.2.1⟩,vw:=n3.blk H.out.2.1,ix:=H.out.2.2.1.new n3,bx:=by
     intro b hb
     rw [hbs] at hb
     simp only [List.mem_cons,List.not_mem_nil,or_false] at hb
     rcases hb with rfl | rfl | rfl | rfl | rfl
     · exact b1
     · exact b2
     · exact b3
     · exact b4
     · exact b5 }
 have hRUN:=run_any (g:=g) hl 146 #[.pointer (some ⟨W.heap.size,0,none⟩),.pointer (some ⟨W.heap.size + 1,0,none⟩),.pointer (some ⟨W.heap.size + 1 + 1,0,none⟩),.pointer (some ⟨W.heap.size + 1 + 1 + 1,0,none⟩),.pointer (some ⟨W.heap.size + 1 + 1 + 1 + 1,0,none⟩)] hE A c s HV.out.2 hs (((((W.alloc (.cells #[.pointer (some ⟨S.s,0,none⟩)] 39)).alloc (.cells #[.int .i64 by_] 3)).alloc (.cells #[.int .i64 mode] 3)).alloc (.cells #[.int .u8 fl] 45)).alloc (.cells #[.bool sil] 4))
  (fun pre W'=>FI w0 base v x g u l S Q M n t f pre.length W bs W') (fun r W'=>FetR l r∧RspOk W.heap.size W' r)
  (fun pre W1 W2 hi hf=>hi.odd (fun b hb=>(hty b hb).2) hf (by omega) (by omega) (by omega) (by omega)) (fun r W1 W2 h hf=>⟨h.1,h.2.fr hf fun k cs _ hc=>odd_no hc (by decide) (by decide) (by decide)⟩)
  (by
    intro pre y W1 hi hlen hsz
    obtain ⟨Q1,M1,hg⟩:=hi.gi
    have hyb:=atOf_bd hl HLU.out y.2
    have e1:=hi.bx (W.heap.size,39,.pointer (some ⟨S.s,0,none⟩)) (by rw [hbs]; simp)
    have e2:=hi.bx (W.heap.size + 1,3,.int .i64 by_) (by rw [hbs]; simp)
    have e3:=hi.bx (W.heap.size + 1 + 1,3,.int .i64 mode) (by rw [hbs]; simp)
    have e4:=hi.bx (W.heap.size + 1 + 1 + 1,45,.int .u8 fl) (by rw [hbs]; simp)
    have e5:=hi.bx (W.heap.size + 1 + 1 + 1 + 1,4,.bool sil) (by rw [hbs]; simp)
    refine (fput1_any hg hi.lt (hg.room H.out.2.2.2.2 hlen) e1 e2 e3 e4 e5 (by omega) ⟨by omega,by omega⟩ ⟨hfl0,by omega⟩ y.1.1 y.1.2 hyb.1.1 hyb.1.2 hyb.2.1 hyb.2.2).mono ?_
    rintro e W2 ⟨r,told,there,Q2,M2,he,htold,hg2,hf2⟩
    obtain ⟨a1,a2⟩:=hi.next hg (fun b hb=>(hty b hb).1) hg2 hf2 (B:=(((((W.alloc (.cells #[.pointer (some ⟨S.s,0,none⟩)] 39)).alloc (.cells #[.int .i64 by_] 3)).alloc (.cells #[.int .i64 mode] 3)).alloc (.cells #[.int .u8 fl] 45)).alloc (.cells #[.bool sil] 4)).heap.size) (by omega) (by omega)
    refine ⟨r,told,there,he,fun ht=>⟨⟨(htold ht).1.1,fun hit=>?_⟩,(htold ht).2.mono (by omega)⟩,by rw [List.length_append]; exact a1,a2,fun r h=>⟨h.1,h.2.fr hf2 fun k cs hk hc=>hg.st.not_foot hc (by omega) (by decide) (by decide) (by decide) (by decide) (by decide) (by decide)⟩⟩
    rw [(htold ht).1.2.1,(htold ht).1.2.2 hit]
    exact y.2)
  (n3.blk H.out.2.1) (H.out.2.2.1.new n3) (HV.out.1.new n3) h0
 refine hRUN.mono ?_
 rintro e W' ⟨vo,lo,code,rfl,hown,hp,hlo,hcode,pre,hpre,hi⟩
 obtain ⟨Q1,M1,hg⟩:=hi.gi
 go_wp2
 go_ret2
 exact ⟨vo,lo,code,rfl,hown.mono (by omega),hp,hlo,by omega,pre.length,Q1,M1,hpre,hg,hi.vw,hi.ix⟩
end Go.Proofs.YtliimglbbiebiaaGreatDoor
end

section
namespace Go.Proofs.YtliimglbbiebiaaGreatDoor
open Go.RowKit Go.Maps
def CodeF (c:Int):Prop:=c=0∨c=2∨c=3∨c=7
theorem status_any (c:Int) (hc:CodeF c) (w:World):Calls Tryz.prog 136 #[.int .i64 c] w fun e w'=>∃ st,e=.returned (.int .i64 st)∧(0≤st∧st≤2)∧w'=w:=by
 obtain rfl | rfl | rfl | rfl:=hc
 all_goals
  go_enter Tryz.func136,Tryz.ntmps136
  go_wp2
  go_ret
  exact ⟨_,rfl,by omega,rfl⟩
theorem codeT_any (c:Int) (hc:CodeF c) (w:World):Calls Tryz.prog 137 #[.int .i64 c] w fun e w'=>∃ tx,e=.returned (.string tx)∧tx.size≤100∧w'=w:=by
 obtain rfl | rfl | rfl | rfl:=hc
 all_goals
  go_enter Tryz.func137,Tryz.ntmps137
  go_wp2
  go_ret
  exact ⟨_,rfl,by decide,rfl⟩
theorem of_some (c:Int) (hc:CodeF c) (x:ByteArray) (w:World):Calls Tryz.prog 99 #[.int .i64 c,.string x] w fun e w'=>∃ st tx,e=.returned (.agg #[.int .i64 st,.string tx])∧(0≤st∧st≤2)∧tx.size≤x.size + 100∧New w w':=by
 by_cases h0:c=0
 · subst h0
   exact (of_ok x w).mono fun e w' h=>⟨0,x,h.1,by omega,by omega,h.2⟩
 · have hne:(c == 0)=false:=beq_eq_false_iff_ne.2 h0
   have HC:=Lib.hid hc
   clear hc h0
   go_enter Tryz.func99,Tryz.ntmps99
   go_wp2_with (first | (go_at_call 136; refine (status_any c HC.out _).mono ?_; rintro e w1 ⟨st,rfl,hst,rfl⟩) | (go_at_call 137; refine (codeT_any c HC.out _).mono ?_; rintro e w2 ⟨tx,rfl,htx,rfl⟩) | fail)
   exact bodyPost_ret (results_cell1 rfl _ _ rfl (loadOut (Blk.new _ _ _))) rfl ⟨st,tx,rfl,hst,by omega,(New.refl w).alloc _⟩
theorem SV.apart {w0 w w':World} {base:Nat} {S:Sx} {Q:Qs} {M:List Msg} {n t f:Int} {i:Int} {xs v x:Nat} {u:Value} {l:List Int} {R:Nat→Prop} (h:SV w0 base w S Q M n t f i xs v x u l) (hf:Fr R w w')
 (hR:∀ k,R k→k < w.heap.size→base≤k∧w0.heap.size≤k∧∃ cs,Blk w k 50 cs∨Blk w k 53 cs∨Blk w k 108 cs):SV w0 base w' S Q M n t f i xs v x u l:=by
 have hno:∀ k e cs,Blk w k e cs→e≠50→e≠53→e≠108→¬ R k:=fun k e cs hb n1 n2 n3 hk=>by
  obtain ⟨_,_,cs',hcs | hcs | hcs⟩:=hR k hk hb.lt
  · exact absurd rfl (hb.ne_ hcs n1)
  · exact absurd rfl (hb.ne_ hcs n2)
  · exact absurd rfl (hb.ne_ hcs n3)
 have hnf:∀ k,S.foot Q k→¬ R k:=fun k hs hk=>by
  obtain ⟨hb,_,cs,hcs | hcs | hcs⟩:=hR k hk (h.st.foot_lt hs)
  · exact h.st.not_foot hcs hb (by decide) (by decide) (by decide) (by decide) (by decide) (by decide) hs
  · exact h.st.not_foot hcs hb (by decide) (by decide) (by decide) (by decide) (by decide) (by decide) hs
  · exact h.st.not_foot hcs hb (by decide) (by decide) (by decide) (by decide) (by decide) (by decide) hs
 have hf':Fr (fun k=>R k∧k < w.heap.size) w w':=hf.mono fun k hl hk=>⟨hk,hl⟩
 exact { h with
  st:=h.st.keep hf' (fun k hs hk=>hnf k hs hk.1) (fun vv ll ho b hb hk=>by
   obtain ⟨cs,hc⟩:=ho.heap hb
   exact hno b _ cs hc (by decide) (by decide) (by decide) hk.1) (fun k hk=>(hR k hk.1 hk.2).2.1)
  ses:=hf.blk h.ses (hno _ _ _ h.ses (by decide) (by decide) (by decide))
  vw:=hf.blk h.vw (hno _ _ _ h.vw (by decide) (by decide) (by decide))
  ix:=h.ix.fr hf (hno _ _ _ h.ix.1 (by decide) (by decide) (by decide)) fun b hb=>by
   obtain ⟨cs,hc⟩:=h.ix.2.1.heap hb
   exact hno b _ cs hc (by decide) (by decide) (by decide) }
structure OutI (bs OB:Nat) (vo:Value) (lo:List Rsp) (W:World):Prop where
 b:Blk W OB 50 #[vo]
 r:Own rspE 53 bs W vo lo
 ok:∀ r ∈ lo,RspOk bs W r
section
variable {bs OB:Nat} {vo:Value} {lo:List Rsp} {W W':World}
theorem OutI.fr (h:OutI bs OB vo lo W) {R:Nat→Prop} (hf:Fr R W W') (hR:∀ k t cs,Blk W k t cs→(k=OB∨bs≤k)→(t=50∨t=53∨t=5)→¬ R k):OutI bs OB vo lo W' :=
 ⟨hf.blk h.b (hR _ _ _ h.b (.inl rfl) (.inl rfl)),h.r.fr hf fun b hb=>by
   obtain ⟨cs,hc⟩:=h.r.heap hb
   exact hR b _ cs hc (.inr (h.r.block hb).1) (.inr (.inl rfl)),fun r hr=>(h.ok r hr).fr hf fun k cs hk hc=>hR k _ cs hc (.inr hk) (.inr (.inr rfl))⟩
theorem OutI.new (h:OutI bs OB vo lo W) (hn:New W W'):OutI bs OB vo lo W':=h.fr hn fun _ _ _ _ _ _ h=>h
theorem OutI.one (h:OutI bs OB vo lo W) {g:Nat} {t:TypeId} {cs:Array Value} (hf:One g W W') (hg:Blk W g t cs) (h1:t≠50) (h2:t≠53) (h3:t≠5):OutI bs OB vo lo W' :=
 h.fr hf fun k t' cs' hb _ ht e=>by
  have e:k=g:=e
  subst e
  rcases ht with rfl | rfl | rfl
  · exact hb.ne_ hg (Ne.symm h1) rfl
  · exact hb.ne_ hg (Ne.symm h2) rfl
  · exact hb.ne_ hg (Ne.symm h3) rfl
theorem OutI.add (h:OutI bs OB vo lo W) {vo':Value} {ll:List Rsp} (hl:∀ r ∈ ll,RspOk bs W r) (hb:Blk W' OB 50 #[vo']) (hr:Own rspE 53 bs W' vo' (lo ++ ll)) (hf:Fr (fun k=>k=OB∨vo.ownBlock=some k) W W'):OutI bs OB vo' (lo ++ ll) W':=by
 have hno:∀ k cs,bs≤k→Blk W k 5 cs→¬ (k=OB∨vo.ownBlock=some k):=by
  rintro k cs _ hc (e | e)
  · exact hc.ne_ h.b (by decide) e
  · exact h.r.ne_blk hc (by decide) e
 exact ⟨hb,hr,fun r hr=>(List.mem_append.1 hr).elim (fun h'=>(h.ok r h').fr hf hno) fun h'=>(hl r h').fr hf hno⟩
end
theorem messages_bad (xs:Nat) (verb:ByteArray) (hvb:verb.size≤100) (vl:Value) (OB:Nat) (W:World) :
 Calls Tryz.prog 102 #[.pointer (some ⟨xs,0,none⟩),.string verb,vl,.int .i64 3,addV OB] W fun e W'=>∃ st tx,e=.returned (.agg #[.int .i64 st,.string tx])∧(0≤st∧st≤2)∧tx.size≤300∧New W W':=by
 have z1:ByteArray.size ⟨#[32,99,111,109,112,108,101,116,101,100]⟩=10:=rfl
 have a1:¬ 9223372036854775807 < verb.size + 10:=by omega
 go_enter Tryz.func102,Tryz.ntmps102
 go_wp2_with fail
 refine (of_some 3 (.inr (.inr (.inl rfl))) _ _).mono ?_
 rintro e w2 ⟨st,tx,rfl,hst,htx,n2⟩
 have n1:New W (W.alloc (.cells #[.int .i64 0,.string ⟨#[]⟩] 108)):=(New.refl W).alloc _
 have b2:Blk w2 W.heap.size 108 #[.int .i64 0,.string ⟨#[]⟩]:=n2.blk (Blk.new _ _ _)
 have c0:w2.cell? ⟨W.heap.size,0,none⟩=some (.int .i64 0):=b2.cell 0
 have c1:w2.cell? ⟨W.heap.size,1,none⟩=some (.string ⟨#[]⟩):=b2.cell 1
 have ff:=b2.froz
 have hsz:(verb ++ ⟨#[32,99,111,109,112,108,101,116,101,100]⟩).size=verb.size + 10:=by rw [ByteArray.size_append]; rfl
 rw [hsz] at htx
 go_wp2
 refine bodyPost_ret (results_cell1 rfl _ _ rfl (loadOut (b2.over2 (.int .i64 st) (.string tx)))) rfl ?_
 exact ⟨st,tx,rfl,hst,by omega,Fr.trans' (n1.trans n2) (One.over2 w2 W.heap.size (.int .i64 st) (.string tx)) fun k hk e=>by have e:k=W.heap.size:=e; omega⟩
theorem messages_any {w0 W:World} {base:Nat} {S:Sx} {Q:Qs} {M:List Msg} {n t f:Int} {i:Int} {xs v x:Nat} {u:Value} {l:List Int} (V:SV w0 base W S Q M n t f i xs v x u l) (hn:n≤50000) (hl:(Q.l i).length≤100000000) (verb:ByteArray) (hvb:verb.size≤100) (code:Int) (hc:CodeF code) (h3:code≠3)
 {bs OB:Nat} (vl:Value) (ll:List Rsp) (hvl:Rd rspE W vl ll) (hll:ll.length≤100000) (hlk:∀ r ∈ ll,RspOk bs W r) {vo:Value} {lo:List Rsp} (ho:OutI bs OB vo lo W) (hlo:lo.length≤100000) (hbb:base≤bs) (hbw:w0.heap.size≤bs) (hbs:bs≤W.heap.size) (hOB:base≤OB) (hOw:w0.heap.size≤OB) :
 Calls Tryz.prog 102 #[.pointer (some ⟨xs,0,none⟩),.string verb,vl,.int .i64 code,addV OB] W fun e W'=>∃ st tx vo' lo',e=.returned (.agg #[.int .i64 st,.string tx])∧((0≤st∧st≤2)∧tx.size≤300)∧OutI bs OB vo' lo' W'∧(∀ r ∈ lo',r ∈ lo∨r ∈ ll∨EvR r)∧lo'.length≤lo.length + ll.length + 2 * (Q.l i).length + 1 ∧
  ∃ v' u' l',SV w0 base W' S (Q.upd i v' ((Q.l i).filter fun x=>!(false || decide (x.k≠2)))) M n t f i xs v x u' l'∧l <+: l'∧(∀ g,v'.ownBlock=some g→W.heap.size≤g)∧Fr (fun k=>S.foot Q k∨k=v∨k=x∨u.ownBlock=some k∨k=OB∨vo.ownBlock=some k) W W'∧Stays W u u':=by
 have z1:ByteArray.size ⟨#[32,99,111,109,112,108,101,116,101,100]⟩=10:=rfl
 have a1:¬ 9223372036854775807 < verb.size + 10:=by omega
 have hne:(code != 3)=true:=bne_iff_ne.2 h3
 have n1:New W (W.alloc (.cells #[.int .i64 0,.string ⟨#[]⟩] 108)):=(New.refl W).alloc _
 have bR:Blk (W.alloc (.cells #[.int .i64 0,.string ⟨#[]⟩] 108)) W.heap.size 108 #[.int .i64 0,.string ⟨#[]⟩]:=Blk.new _ _ _
 have ho1:=ho.new n1
 have HA1:=Lib.hid (add_rsp OB bs vl vo lo ll _ ho1.b ho1.r (hvl.new n1) (by omega) (by rw [World.size_alloc]; omega))
 have H:=Lib.hid (And.intro V (And.intro n1 (And.intro bR (And.intro ho1 (And.intro hc fun r hr=>(hlk r hr).new n1)))))
 have hbW:=V.st.hb
 clear V hvl ho ho1 bR n1 hc h3 hlk
 go_enter Tryz.func102,Tryz.ntmps102
 go_wp2_with fail
 refine HA1.out.mono ?_
 rintro e w2 ⟨rfl,vo2,hb2,hr2,f2,st2⟩
 have V1:=H.out.1.new H.out.2.1
 have hR2:∀ k,(k=OB∨vo.ownBlock=some k)→base≤k∧w0.heap.size≤k∧∃ cs,Blk (W.alloc (.cells #[.int .i64 0,.string ⟨#[]⟩] 108)) k 50 cs∨Blk (W.alloc (.cells #[.int .i64 0,.string ⟨#[]⟩] 108)) k 53 cs∨Blk (W.alloc (.cells #[.int .i64 0,.string ⟨#[]⟩] 108)) k 108 cs:=by
  rintro k (rfl | hk)
  · exact ⟨hOB,hOw,_,.inl H.out.2.2.2.1.b⟩
  · obtain ⟨cs,hcs⟩:=H.out.2.2.2.1.r.heap hk
    have:=(H.out.2.2.2.1.r.block hk).1
    exact ⟨by omega,by omega,cs,.inr (.inl hcs)⟩
 have V2:=V1.apart f2 fun k hk _=>hR2 k hk
 have bR2:=f2.blk H.out.2.2.1 (by
  rintro (e | e)
  · exact H.out.2.2.1.ne_ H.out.2.2.2.1.b (by decide) e
  · exact H.out.2.2.2.1.r.ne_blk H.out.2.2.1 (by decide) e)
 have HFL:=Lib.hid (dflush_any V2 false hn hl)
 have ho2:=H.out.2.2.2.1.add H.out.2.2.2.2.2 hb2 hr2 f2
 have H2:=Lib.hid (And.intro V2 (And.intro bR2 (And.intro ho2 (And.intro f2 st2))))
 clear V1 V2 bR2 hb2 hr2 ho2 f2 st2 hR2 HA1
 go_wp2_with fail
 refine HFL.out.mono ?_
 rintro e w3 ⟨o,lo3,rfl,ho3,hp3,hl3,v3,u3,l3,V3,hv3,F3,st3,pr3⟩
 have hno3:∀ k ty cs,Blk w2 k ty cs→base≤k→(ty=50∨ty=53∨ty=108∨ty=5)→¬ (S.foot Q k∨k=v∨k=x∨u.ownBlock=some k):=by
  rintro k ty cs hb hk ht (e | e | e | e)
  · rcases ht with rfl | rfl | rfl | rfl <;> exact H2.out.1.st.not_foot hb hk (by decide) (by decide) (by decide) (by decide) (by decide) (by decide) e
  · rcases ht with rfl | rfl | rfl | rfl <;> exact hb.ne_ H2.out.1.vw (by decide) e
  · rcases ht with rfl | rfl | rfl | rfl <;> exact hb.ne_ H2.out.1.ix.1 (by decide) e
  · obtain ⟨cs',hc⟩:=H2.out.1.ix.2.1.heap e
    rcases ht with rfl | rfl | rfl | rfl <;> exact hb.ne_ hc (by decide) rfl
 have i3:=H2.out.2.2.1.fr F3 (fun k ty cs hb hk ht=>hno3 k ty cs hb (by omega) (by
  rcases ht with rfl | rfl | rfl
  · exact .inl rfl
  · exact .inr (.inl rfl)
  · exact .inr (.inr (.inr rfl))))
 have R3:=F3.blk H2.out.2.1 (hno3 _ _ _ H2.out.2.1 hbW (.inr (.inr (.inl rfl))))
 have hs2:=H2.out.2.2.2.1.size
 rw [World.size_alloc] at hs2
 have hs3:=F3.size
 have HA2:=Lib.hid (add_rsp OB bs o vo2 (lo ++ ll) lo3 _ i3.b i3.r ho3.rd (by rw [List.length_append]; omega) (by omega))
 have H3:=Lib.hid (And.intro V3 (And.intro R3 (And.intro i3 (And.intro F3 (And.intro hp3 (And.intro hl3 (And.intro hv3 (And.intro st3 pr3))))))))
 clear V3 R3 i3 F3 hp3 hl3 hv3 st3 pr3 ho3 hno3 HFL
 go_wp2_with fail
 refine HA2.out.mono ?_
 rintro e w4 ⟨rfl,vo4,hb4,hr4,f4,st4⟩
 have hR4:∀ k,(k=OB∨vo2.ownBlock=some k)→base≤k∧w0.heap.size≤k∧∃ cs,Blk w3 k 50 cs∨Blk w3 k 53 cs∨Blk w3 k 108 cs:=by
  rintro k (rfl | hk)
  · exact ⟨hOB,hOw,_,.inl H3.out.2.2.1.b⟩
  · obtain ⟨cs,hcs⟩:=H3.out.2.2.1.r.heap hk
    have:=(H3.out.2.2.1.r.block hk).1
    exact ⟨by omega,by omega,cs,.inr (.inl hcs)⟩
 have V4:=H3.out.1.apart f4 fun k hk _=>hR4 k hk
 have R4:=f4.blk H3.out.2.1 (by
  rintro (e | e)
  · exact H3.out.2.1.ne_ H3.out.2.2.1.b (by decide) e
  · exact H3.out.2.2.1.r.ne_blk H3.out.2.1 (by decide) e)
 have hs4:=f4.size
 have i4:=H3.out.2.2.1.add (fun r hr=>((H3.out.2.2.2.2.1 r hr).2.mono (by omega))) hb4 hr4 f4
 have H4:=Lib.hid (And.intro V4 (And.intro R4 (And.intro i4 f4)))
 clear V4 R4 hb4 hr4 i4 f4 hR4 HA2 st4
 go_wp2_with fail
 refine (of_some code H.out.2.2.2.2.1 _ _).mono ?_
 rintro e w5 ⟨st,tx,rfl,hst,htx,n5⟩
 have b5:=n5.blk H4.out.2.1
 have c0:w5.cell? ⟨W.heap.size,0,none⟩=some (.int .i64 0):=b5.cell 0
 have c1:w5.cell? ⟨W.heap.size,1,none⟩=some (.string ⟨#[]⟩):=b5.cell 1
 have ff:=b5.froz
 have hsz:(verb ++ ⟨#[32,99,111,109,112,108,101,116,101,100]⟩).size=verb.size + 10:=by rw [ByteArray.size_append]; rfl
 rw [hsz] at htx
 go_wp2
 refine bodyPost_ret (results_cell1 rfl _ _ rfl (loadOut (b5.over2 (.int .i64 st) (.string tx)))) rfl ?_
 have one:=One.over2 w5 W.heap.size (.int .i64 st) (.string tx)
 have V6:=(H4.out.1.new n5).apart one fun k hk _=>by
  have e:k=W.heap.size:=hk
  rw [e]
  exact ⟨hbW,H.out.1.st.new.size,_,.inr (.inr b5)⟩
 have hl3':=H3.out.2.2.2.2.2.1
 refine ⟨st,tx,vo4,(lo ++ ll) ++ lo3,rfl,⟨hst,by omega⟩,(H4.out.2.2.1.new n5).one one b5 (by decide) (by decide) (by decide),fun r hr=>?_,by rw [List.length_append,List.length_append]; omega,v3,u3,l3,V6,H3.out.2.2.2.2.2.2.2.2 (by first | rfl | trivial),fun g hg=>?_,?_,?_⟩
 · rcases List.mem_append.1 hr with hr | hr
   · rcases List.mem_append.1 hr with hr | hr
     · exact .inl hr
     · exact .inr (.inl hr)
   · exact .inr (.inr (H3.out.2.2.2.2.1 r hr).1)
 · have:=H3.out.2.2.2.2.2.2.1 g hg
   omega
 · have g2:Fr (fun k=>S.foot Q k∨k=v∨k=x∨u.ownBlock=some k∨k=OB∨vo.ownBlock=some k) W w2:=Fr.trans' (New.to H.out.2.1) H2.out.2.2.2.1 fun k _ hk=>.inr (.inr (.inr (.inr hk)))
   have g3:=Fr.trans' g2 H3.out.2.2.2.1 fun k _ hk=>by
    rcases hk with e | e | e | e
    · exact .inl e
    · exact .inr (.inl e)
    · exact .inr (.inr (.inl e))
    · exact .inr (.inr (.inr (.inl e)))
   have g4:=Fr.trans' g3 H4.out.2.2.2 fun k hk he=>by
    rcases he with e | e
    · exact .inr (.inr (.inr (.inr (.inl e))))
    · rcases H2.out.2.2.2.2 with e1 | ⟨b,e1,e2⟩
      · rw [e1] at e
        exact .inr (.inr (.inr (.inr (.inr e))))
      · rw [e1] at e
        injection e with e
        rw [World.size_alloc] at e2
        omega
   exact Fr.trans' (Fr.trans' g4 n5 fun _ _ h=>h.elim) one fun k hk e=>by have e:k=W.heap.size:=e; omega
 · rcases H3.out.2.2.2.2.2.2.2.1 with e1 | ⟨b,e1,e2⟩
   · exact .inl e1
   · exact .inr ⟨b,e1,by omega⟩
end Go.Proofs.YtliimglbbiebiaaGreatDoor
end

section
namespace Go.Proofs.YtliimglbbiebiaaGreatDoor
open Go.RowKit Go.Maps
def Qs.rm (Q:Qs) (i:Int):Qs:=⟨Q.ids.filter fun j=>decide (j≠i),Q.b,Q.v,Q.l⟩
theorem Qs.rm_foot {Q:Qs} {i:Int} {k:Nat} (h:(Q.rm i).foot k):Q.foot k:=by
 obtain ⟨j,hj,hk⟩:=h
 exact ⟨j,(List.mem_filter.1 hj).1,hk⟩
theorem Qs.rm_not (Q:Qs) (i:Int):i ∉ (Q.rm i).ids:=fun h=>by
 have:=(List.mem_filter.1 h).2
 simp at this
theorem Qs.rm_mem {Q:Qs} {i j:Int} (h:j≠i):j ∈ (Q.rm i).ids ↔ j ∈ Q.ids:=by
 unfold Qs.rm
 simp [h]
theorem QX.rm {w w':World} {q:Nat} {Q:Qs} (h:QX w q Q) {i:Int} (hm:HasMap qKeys w' q (del (Q.ids.map fun i=>(i,.pointer (some ⟨Q.b i,0,none⟩))) i)) (hf:One q w w'):QX w' q (Q.rm i):=by
 have hqn:¬ Q.foot q:=h.ne_map h.map
 have hsub:∀ j ∈ (Q.rm i).ids,j ∈ Q.ids:=fun j hj=>(List.mem_filter.1 hj).1
 refine ⟨hm.congr ?_,fun j hj=>(h.que j (hsub j hj)).fr hf (fun e=>hqn ⟨j,hsub j hj,.inl e.symm⟩) fun g hg e=>hqn ⟨j,hsub j hj,.inr (e ▸ hg)⟩,fun j hj k hk=>h.qb j (hsub j hj) k (hsub k hk),fun j hj k hk=>h.qv j (hsub j hj) k (hsub k hk)⟩
 unfold del
 rw [List.filter_map]
 rfl
section
variable {w0 w w':World} {base:Nat} {S S':Sx} {Q Q':Qs} {M M':List Msg} {n t f n' t' f':Int} {i:Int}
theorem sunsub_some (h:STX w0 base w S Q M n t f) (i:Int) (h0:0≤i) (h1:i≤9223372036854775807) (hi:i ∈ Q.ids) :
 Calls Tryz.prog 125 #[.pointer (some ⟨S.s,0,none⟩),.int .i64 i] w fun e w'=>e=.returned (.bool true)∧STX w0 base w' S (Q.rm i) M n t f∧Fr (S.foot Q) w w':=by
 have hk:=qokI (by omega) h1
 have hlk:=h.qx.map.run_look (t:=92) (e:=280) Tryz.underlying92 (zeroQ w) hk
 rw [h.get_some hi] at hlk
 simp only [Option.getD_some] at hlk
 change (Instr.lookup 92 (.map (some S.q)) (.int .i64 i) false).run Tryz.prog w=_ at hlk
 have e2:w.cell? ⟨S.s,4,none⟩=some (.map (some S.q)):=h.hd.cell 4
 have H:=Lib.hid h
 have HM:=Lib.hid h.qx.map
 clear h hi
 go_enter Tryz.func125,Tryz.ntmps125
 go_wp2_with (at_delete; refine wpList_del (E:=qKeys) rfl _ _ 92 280 rfl Tryz.underlying92 HM.out i hk rfl rfl ?_; intro w6 hm6 ho6)
 go_ret
 refine ⟨rfl,H.out.turnQ (H.out.qx.rm hm6 ho6) ho6 (fun k hk=>.inr hk) (fun k hk=>.inl (Qs.rm_foot hk)),ho6.mono fun k _ e=>.inr (.inr (.inr (.inr (.inr (.inl e)))))⟩
theorem Sx.rm_foot {k:Nat} (h:S.foot (Q.rm i) k):S.foot Q k:=by
 rcases h with h | h | h | h | h | h | h
 · exact .inl h
 · exact .inr (.inl h)
 · exact .inr (.inr (.inl h))
 · exact .inr (.inr (.inr (.inl h)))
 · exact .inr (.inr (.inr (.inr (.inl h))))
 · exact .inr (.inr (.inr (.inr (.inr (.inl h)))))
 · exact .inr (.inr (.inr (.inr (.inr (.inr (Qs.rm_foot h))))))
theorem Sx.upd_foot {v':Value} {l':List Ev} {k m:Nat} (hv:∀ g,v'.ownBlock=some g→m≤g) (h:S.foot (Q.upd i v' l') k):S.foot Q k∨m≤k:=by
 rcases h with h | h | h | h | h | h | h
 · exact .inl (.inl h)
 · exact .inl (.inr (.inl h))
 · exact .inl (.inr (.inr (.inl h)))
 · exact .inl (.inr (.inr (.inr (.inl h))))
 · exact .inl (.inr (.inr (.inr (.inr (.inl h)))))
 · exact .inl (.inr (.inr (.inr (.inr (.inr (.inl h))))))
 · rcases Qs.upd_foot hv h with h | h
   · exact .inl (.inr (.inr (.inr (.inr (.inr (.inr h))))))
   · exact .inr h
theorem Sx.add_foot {b k m:Nat} (hb:m≤b) (h:S.foot (Q.add i b) k):S.foot Q k∨m≤k:=by
 rcases h with h | h | h | h | h | h | h
 · exact .inl (.inl h)
 · exact .inl (.inr (.inl h))
 · exact .inl (.inr (.inr (.inl h)))
 · exact .inl (.inr (.inr (.inr (.inl h))))
 · exact .inl (.inr (.inr (.inr (.inr (.inl h)))))
 · exact .inl (.inr (.inr (.inr (.inr (.inr (.inl h))))))
 · rcases Qs.add_foot h with h | h
   · exact .inl (.inr (.inr (.inr (.inr (.inr (.inr h))))))
   · subst h; exact .inr hb
end
abbrev Vo:=Option (Nat × Nat × Value × List Int)
def mineO (xs:Nat):Vo→Nat→Prop
 | none,k=>k=xs
 | some (v,x,u,_),k=>k=xs∨k=v∨k=x∨u.ownBlock=some k
structure SN (w0:World) (base:Nat) (w:World) (S:Sx) (Q:Qs) (M:List Msg) (n t f:Int) (i:Int) (xs:Nat) (d:Bool):Prop where
 st:STX w0 base w S Q M n t f
 ses:Ses w xs (.pointer (some ⟨S.s,0,none⟩)) i none d
 bx:base≤xs
 lx:w0.heap.size≤xs
 ib:0≤i∧i≤1000000
 hi:i ∉ Q.ids
def SO (w0:World) (base:Nat) (w:World) (S:Sx) (Q:Qs) (M:List Msg) (n t f:Int) (i:Int) (xs:Nat):Vo→Bool→Prop
 | none,d=>SN w0 base w S Q M n t f i xs d
 | some (v,x,u,l),d=>d=false∧SV w0 base w S Q M n t f i xs v x u l
structure OpS (W W':World) (S:Sx) (Q:Qs) (n:Int) (i:Int) (xs:Nat) (o:Vo) (m d:Nat) (R:Nat→Prop) (S':Sx) (Q':Qs) (n':Int) (o':Vo):Prop where
 s:S'.s=S.s
 cap:S'.cap=S.cap
 fr:Fr (fun k=>S.foot Q k∨mineO xs o k∨R k) W W'
 gr:∀ k,S'.foot Q' k→S.foot Q k∨W.heap.size≤k
 mg:∀ k,mineO xs o' k→mineO xs o k∨W.heap.size≤k
 nn:n≤n'∧n'≤n + d
 oth:∀ j,j≠i→(j ∈ Q'.ids ↔ j ∈ Q.ids)∧∃ L,Q'.l j=Q.l j ++ L∧L.length≤m∧∀ e ∈ L,EvOk n' e
 own:(Q'.l i).length≤(Q.l i).length + m
section
variable {w0 w w' W W' W'':World} {base:Nat} {S S' S'':Sx} {Q Q' Q'':Qs} {M M':List Msg} {n t f n' t' f' n'':Int} {i:Int} {xs:Nat} {o o' o'':Vo} {m d m' d':Nat} {R R':Nat→Prop} {b:Bool}
theorem SO.st:∀ {o:Vo},SO w0 base w S Q M n t f i xs o b→STX w0 base w S Q M n t f
 | none,h=>SN.st h
 | some (_,_,_,_),h=>h.2.st
def voP:Vo→Option Addr
 | none=>none
 | some (v,_,_,_)=>some ⟨v,0,none⟩
theorem SO.ses:∀ {o:Vo},SO w0 base w S Q M n t f i xs o b→Ses w xs (.pointer (some ⟨S.s,0,none⟩)) i (voP o) b
 | none,h=>SN.ses h
 | some (_,_,_,_),h=>by rw [h.1]; exact h.2.ses
theorem SN.fx (h:SN w0 base w S Q M n t f i xs b):¬ S.foot Q xs:=h.st.not_foot h.ses h.bx (by decide) (by decide) (by decide) (by decide) (by decide) (by decide)
theorem SO.far:∀ {o:Vo},SO w0 base w S Q M n t f i xs o b→∀ k,mineO xs o k→¬ S.foot Q k
 | none,h,k,hk=>by
   have e:k=xs:=hk
   subst e
   exact SN.fx h
 | some (v,x,u,l),h,k,hk=>by
   rcases (show k=xs∨k=v∨k=x∨u.ownBlock=some k from hk) with rfl | rfl | rfl | hk
   · exact h.2.fx
   · exact h.2.fv
   · exact h.2.nx
   · exact h.2.nu k hk
theorem SO.lt:∀ {o:Vo},SO w0 base w S Q M n t f i xs o b→∀ k,mineO xs o k→k < w.heap.size
 | none,h,k,hk=>by
   have e:k=xs:=hk
   subst e
   exact (SN.ses h).lt
 | some (v,x,u,l),h,k,hk=>by
   rcases (show k=xs∨k=v∨k=x∨u.ownBlock=some k from hk) with rfl | rfl | rfl | hk
   · exact h.2.ses.lt
   · exact h.2.vw.lt
   · exact h.2.ix.1.lt
   · exact (h.2.ix.2.1.block hk).2
theorem SO.cells:∀ {o:Vo},SO w0 base w S Q M n t f i xs o b→∀ k,mineO xs o k→w0.heap.size≤k∧∃ ty cs,Blk w k ty cs∧(ty=98∨ty=111∨ty=163∨ty=28)
 | none,h,k,hk=>by
   have e:k=xs:=hk
   subst e
   exact ⟨SN.lx h,_,_,SN.ses h,.inl rfl⟩
 | some (v,x,u,l),h,k,hk=>by
   rcases (show k=xs∨k=v∨k=x∨u.ownBlock=some k from hk) with rfl | rfl | rfl | hk
   · exact ⟨h.2.lx,_,_,h.2.ses,.inl rfl⟩
   · exact ⟨h.2.lv,_,_,h.2.vw,.inr (.inl rfl)⟩
   · exact ⟨h.2.li,_,_,h.2.ix.1,.inr (.inr (.inl rfl))⟩
   · obtain ⟨cs,hc⟩:=h.2.ix.2.1.heap hk
     exact ⟨h.2.lu k hk,_,cs,hc,.inr (.inr (.inr rfl))⟩
theorem SO.not_mine (h:SO w0 base w S Q M n t f i xs o b) {k:Nat} {ty:TypeId} {cs:Array Value} (hb:Blk w k ty cs) (h1:ty≠98) (h2:ty≠111) (h3:ty≠163) (h4:ty≠28):¬ mineO xs o k:=fun hk=>by
 obtain ⟨_,ty',cs',hc,ht⟩:=h.cells k hk
 rcases ht with rfl | rfl | rfl | rfl
 · exact hb.ne_ hc h1 rfl
 · exact hb.ne_ hc h2 rfl
 · exact hb.ne_ hc h3 rfl
 · exact hb.ne_ hc h4 rfl
theorem SO.turn:∀ {o:Vo},SO w0 base w S Q M n t f i xs o b→STX w0 base w' S' Q' M' n' t' f'→S'.s=S.s→Fr R w w'→(∀ k,mineO xs o k→¬ R k)→(∀ k,S'.foot Q' k→S.foot Q k∨w.heap.size≤k)→n≤n'→(i ∈ Q'.ids ↔ i ∈ Q.ids)→(∀ e ∈ Q'.l i,e ∈ Q.l i∨EvOk n' e)→SO w0 base w' S' Q' M' n' t' f' i xs o b
 | none,h,hst,hS,hf,hR,_,_,hq,_=>{ st:=hst,ses:=by rw [hS]; exact hf.blk (SN.ses h) (hR _ rfl),bx:=SN.bx h,lx:=SN.lx h,ib:=SN.ib h,hi:=fun hh=>SN.hi h (hq.1 hh) }
 | some (_,_,_,_),h,hst,hS,hf,hR,hft,hn,hq,he=>⟨h.1,h.2.turn hst hS hf (fun k hk=>hR k hk) hft hn (hq.2 h.2.hi) fun e h'=>(he e h').elim (fun h''=>(h.2.ev e h'').up hn) id⟩
theorem SO.new (h:SO w0 base w S Q M n t f i xs o b) (hn:New w w'):SO w0 base w' S Q M n t f i xs o b :=
 h.turn (h.st.more hn) rfl hn (fun _ _ h=>h) (fun _ h=>.inl h) (Int.le_refl _) Iff.rfl fun _ h=>.inl h
theorem SO.apart (h:SO w0 base w S Q M n t f i xs o b) (hf:Fr R w w')
 (hR:∀ k,R k→k < w.heap.size→base≤k∧w0.heap.size≤k∧∃ cs,Blk w k 50 cs∨Blk w k 53 cs∨Blk w k 108 cs):SO w0 base w' S Q M n t f i xs o b:=by
 have hf':Fr (fun k=>R k∧k < w.heap.size) w w':=hf.mono fun k hl hk=>⟨hk,hl⟩
 have hm:∀ k,mineO xs o k→¬ (R k∧k < w.heap.size):=fun k hk hr=>by
  obtain ⟨_,_,cs,hc | hc | hc⟩:=hR k hr.1 hr.2
  · exact h.not_mine hc (by decide) (by decide) (by decide) (by decide) hk
  · exact h.not_mine hc (by decide) (by decide) (by decide) (by decide) hk
  · exact h.not_mine hc (by decide) (by decide) (by decide) (by decide) hk
 refine h.turn (h.st.keep hf' (fun k hk hr=>?_) (fun vv ll ho b hb hr=>?_) fun k hr=>(hR k hr.1 hr.2).2.1) rfl hf' hm (fun _ h=>.inl h) (Int.le_refl _) Iff.rfl fun _ h=>.inl h
 · obtain ⟨hb,_,cs,hc | hc | hc⟩:=hR k hr.1 hr.2
   · exact h.st.not_foot hc hb (by decide) (by decide) (by decide) (by decide) (by decide) (by decide) hk
   · exact h.st.not_foot hc hb (by decide) (by decide) (by decide) (by decide) (by decide) (by decide) hk
   · exact h.st.not_foot hc hb (by decide) (by decide) (by decide) (by decide) (by decide) (by decide) hk
 · obtain ⟨cs,hc⟩:=ho.heap hb
   obtain ⟨_,_,cs',hc' | hc' | hc'⟩:=hR b hr.1 hr.2
   · exact absurd rfl (hc.ne_ hc' (by decide))
   · exact absurd rfl (hc.ne_ hc' (by decide))
   · exact absurd rfl (hc.ne_ hc' (by decide))
theorem OpS.refl (hn:New W W'):OpS W W' S Q n i xs o 0 0 R S Q n o where
 s:=rfl
 cap:=rfl
 fr:=New.to hn
 gr:=fun _ h=>.inl h
 mg:=fun _ h=>.inl h
 nn:=by omega
 oth:=fun j _=>⟨Iff.rfl,[],by simp,by simp,by simp⟩
 own:=by omega
theorem OpS.trans (h:OpS W W' S Q n i xs o m d R S' Q' n' o') (k:OpS W' W'' S' Q' n' i xs o' m' d' R' S'' Q'' n'' o'') (hR:∀ k,R' k→R k∨W.heap.size≤k):OpS W W'' S Q n i xs o (m + m') (d + d') R S'' Q'' n'' o'' where
 s:=k.s.trans h.s
 cap:=k.cap.trans h.cap
 fr:=Fr.trans' h.fr k.fr fun j hj hk=>by
  rcases hk with hk | hk | hk
  · rcases h.gr j hk with h1 | h1
    · exact .inl h1
    · omega
  · rcases h.mg j hk with h1 | h1
    · exact .inr (.inl h1)
    · omega
  · rcases hR j hk with h1 | h1
    · exact .inr (.inr h1)
    · omega
 gr:=fun j hj=>by
  rcases k.gr j hj with h1 | h1
  · exact h.gr j h1
  · exact .inr (Nat.le_trans h.fr.size h1)
 mg:=fun j hj=>by
  rcases k.mg j hj with h1 | h1
  · exact h.mg j h1
  · exact .inr (Nat.le_trans h.fr.size h1)
 nn:=by have:=h.nn; have:=k.nn; omega
 oth:=fun j hj=>by
  obtain ⟨a1,L,a2,a3,a4⟩:=h.oth j hj
  obtain ⟨b1,K,b2,b3,b4⟩:=k.oth j hj
  refine ⟨b1.trans a1,L ++ K,by rw [b2,a2,List.append_assoc],by rw [List.length_append]; omega,fun e he=>(List.mem_append.1 he).elim (fun h'=>(a4 e h').up k.nn.1) (b4 e)⟩
 own:=by have:=h.own; have:=k.own; omega
theorem OpS.weak (h:OpS W W' S Q n i xs o m d R S' Q' n' o') (hm:m≤m') (hd:d≤d') (hR:∀ k,k < W.heap.size→R k→R' k):OpS W W' S Q n i xs o m' d' R' S' Q' n' o' :=
 { h with
   fr:=h.fr.mono fun k hl hk=>hk.imp id fun hk=>hk.imp id (hR k hl)
   nn:=by have:=h.nn; omega
   oth:=fun j hj=>by
    obtain ⟨a1,L,a2,a3,a4⟩:=h.oth j hj
    exact ⟨a1,L,a2,by omega,a4⟩
   own:=by have:=h.own; omega }
theorem OpS.flushed {v x:Nat} {u u' v':Value} {l l':List Int} {L:List Ev} (hv:∀ g,v'.ownBlock=some g→W.heap.size≤g) (hf:Fr (fun k=>S.foot Q k∨k=v∨k=x∨u.ownBlock=some k∨R k) W W') (hst:Stays W u u') (hL:L.length≤(Q.l i).length) :
 OpS W W' S Q n i xs (some (v,x,u,l)) 0 0 R S (Q.upd i v' L) n (some (v,x,u',l')) where
 s:=rfl
 cap:=rfl
 fr:=hf.mono fun k _ hk=>by
  rcases hk with e | e | e | e | e
  · exact .inl e
  · exact .inr (.inl (.inr (.inl e)))
  · exact .inr (.inl (.inr (.inr (.inl e))))
  · exact .inr (.inl (.inr (.inr (.inr e))))
  · exact .inr (.inr e)
 gr:=fun k hk=>Sx.upd_foot hv hk
 mg:=fun k hk=>by
  rcases (show k=xs∨k=v∨k=x∨u'.ownBlock=some k from hk) with e | e | e | e
  · exact .inl (.inl e)
  · exact .inl (.inr (.inl e))
  · exact .inl (.inr (.inr (.inl e)))
  · rcases hst with e1 | ⟨b,e1,e2⟩
    · rw [e1] at e
      exact .inl (.inr (.inr (.inr e)))
    · rw [e1] at e
      injection e with e
      exact .inr (by omega)
 nn:=by omega
 oth:=fun j hj=>⟨Iff.rfl,[],by simp [Qs.upd,hj],by simp,by simp⟩
 own:=by
  show (if i=i then _ else _:List Ev).length≤_
  rw [if_pos rfl]
  omega
theorem OpS.side (hf:Fr R W W'):OpS W W' S Q n i xs o 0 0 R S Q n o :=
 { OpS.refl (Fr.refl _ W:New W W) (R:=R) (S:=S) (Q:=Q) (n:=n) (i:=i) (xs:=xs) (o:=o) with
   fr:=hf.mono fun _ _ hk=>.inr (.inr hk) }
theorem GI.ops {v x:Nat} {u:Value} {l:List Int} {j:Nat} (h:GI w0 base v x u S Q M n t f j Q' M' W W') (hj:j≤m):OpS W W' S Q n i xs (some (v,x,u,l)) m 0 R S Q' n (some (v,x,u,l)) where
 s:=rfl
 cap:=rfl
 fr:=h.fr.mono fun _ _ hk=>.inl hk
 gr:=h.gr
 mg:=fun _ hk=>.inl hk
 nn:=by omega
 oth:=fun j' _=>by
  obtain ⟨L,a1,a2,a3⟩:=h.ev j'
  refine ⟨by rw [h.ids],L,a1,by omega,fun e he=>?_⟩
  obtain ⟨k1,k2,k3⟩:=a3 e he
  exact ⟨by omega,k2,by omega⟩
 own:=by
  obtain ⟨L,a1,a2,a3⟩:=h.ev i
  rw [a1,List.length_append]
  omega
end
def GoodR (o:Vo) (r:Rsp):Prop:=EvR r∨∃ v x u l,o=some (v,x,u,l)∧FetR l r
theorem atOf_pre {l l':List Int} (h:l <+: l') {p z:Int} (ha:atOf l p=(z,true)):atOf l' p=(z,true):=by
 obtain ⟨t,rfl⟩:=h
 unfold atOf at ha ⊢
 split at ha
 · rename_i hp
   have hi:(p - 1).toNat < l.length:=by omega
   rw [if_pos (by rw [List.length_append]; omega),List.getElem?_append_left hi]
   exact ha
 · cases (Prod.mk.injEq _ _ _ _ ▸ ha).2
theorem FetR.up {l l':List Int} (h:l <+: l') {r:Rsp} (hr:FetR l r):FetR l' r:=⟨hr.1,fun hi=>atOf_pre h (hr.2 hi)⟩
def OpR (w0:World) (base:Nat) (W W':World) (S:Sx) (Q:Qs) (n f:Int) (i:Int) (xs:Nat) (o:Vo) (bs OB:Nat) (vo:Value) (lo:List Rsp) (e:Ending):Prop :=
 ∃ st tx vo' lo' S' Q' M' n' t' o' d',e=.returned (.agg #[.int .i64 st,.string tx])∧((0≤st∧st≤2)∧tx.size≤300)∧OutI bs OB vo' lo' W'∧SO w0 base W' S' Q' M' n' t' f i xs o' d' ∧
   OpS W W' S Q n i xs o 5000 1 (fun k=>k=OB∨vo.ownBlock=some k) S' Q' n' o'∧(∀ r ∈ lo',r ∈ lo∨GoodR o' r)∧lo'.length≤lo.length + 200000000
end Go.Proofs.YtliimglbbiebiaaGreatDoor
end

section
namespace Go.Proofs.YtliimglbbiebiaaGreatDoor
open Go.RowKit Go.Maps
section
variable {w0 w w':World} {base:Nat} {S:Sx} {Q:Qs} {M:List Msg} {n t f:Int} {i:Int} {xs v x:Nat} {u:Value} {l:List Int} {o:Vo}
theorem STX.state (h:STX w0 base w S Q M n t f) {cs:Array Value} (hs:Blk w xs 98 cs) (hbx:base≤xs) (hlx:w0.heap.size≤xs) (hf:One xs w w'):STX w0 base w' S Q M n t f :=
 h.one_ hf hs hbx hlx (by decide) (by decide) (by decide) (by decide) (by decide) (by decide) (by decide)
theorem leave_some (H0:SV w0 base w S Q M n t f i xs v x u l) :
 Calls Tryz.prog 90 #[.pointer (some ⟨xs,0,none⟩)] w fun e w'=>e=.returned (.tuple #[])∧SN w0 base w' S (Q.rm i) M n t f i xs false∧Fr (fun k=>S.foot Q k∨k=xs) w w':=by
 obtain ⟨k0,k1,k2,k3⟩:=H0.ses.all4
 have hib:=H0.ib
 have hfx:=H0.fx
 have hs:=H0.ses
 have hbl:=And.intro H0.bx H0.lx
 have HU:=Lib.hid (fun W (hn:New w W)=>sunsub_some (H0.st.more hn) i (by omega) (by omega) H0.hi)
 clear H0
 go_enter Tryz.func90,Tryz.ntmps90
 go_wp2_with fail
 go_region_held3 (fun W=>W.cell? ⟨xs,0,none⟩=some (.pointer (some ⟨S.s,0,none⟩))∧W.cell? ⟨xs,1,none⟩=some (.int .i64 i)) (first | go_keep | (refine ⟨?_,?_⟩ <;> assumption)) ((first
  | (go_at_call 125
     refine (HU.out _ (by repeat' first | exact New.refl _ | apply Fr.alloc | apply Fr.drewN | apply Fr.drew)).mono ?_
     rintro e w2 ⟨rfl,hst2,f2⟩
     have F2:Fr (S.foot Q) w w2:=Fr.trans (New.to (by repeat' first | exact New.refl _ | apply Fr.alloc | apply Fr.drewN | apply Fr.drew)) f2
     have hs2:=F2.blk hs hfx
     have p0:w2.cell? ⟨xs,0,none⟩=some (.pointer (some ⟨S.s,0,none⟩)):=hs2.cell 0
     have p1:w2.cell? ⟨xs,1,none⟩=some (.int .i64 i):=hs2.cell 1
     have p2:w2.cell? ⟨xs,2,none⟩=some (.pointer (some ⟨v,0,none⟩)):=hs2.cell 2
     have z2:=hs2.frozen 2
     have HST:=Lib.hid hst2
     have HF2:=Lib.hid F2
     clear hst2 f2 F2)
  | fail))
 go_wp2
 go_end0
 have o3:One xs w2 (w2.setCell ⟨xs,2,none⟩ (.pointer none)):=(One.refl xs w2).set 2 _
 exact ⟨rfl,{ st:=HST.out.state hs2 hbl.1 hbl.2 o3,ses:=hs2.set_ 2 _,bx:=hbl.1,lx:=hbl.2,ib:=hib,hi:=Qs.rm_not Q i },Fr.trans (HF2.out.mono fun _ _ h=>.inl h) (o3.mono fun _ _ h=>.inr h)⟩
theorem Qs.rm_oth {n:Int} {j:Int} (hj:j≠i):(j ∈ (Q.rm i).ids ↔ j ∈ Q.ids)∧∃ L,(Q.rm i).l j=Q.l j ++ L∧L.length≤0∧∀ e ∈ L,EvOk n e:=⟨Qs.rm_mem hj,[],by simp [Qs.rm],by simp,by simp⟩
theorem leave_any (H:SO w0 base w S Q M n t f i xs o false) :
 Calls Tryz.prog 90 #[.pointer (some ⟨xs,0,none⟩)] w fun e w'=>e=.returned (.tuple #[])∧∃ Q',SN w0 base w' S Q' M n t f i xs false∧OpS w w' S Q n i xs o 0 0 (fun _=>False) S Q' n none∧Q'.ids.length≤Q.ids.length:=by
 rcases o with _ | ⟨v,x,u,l⟩
 · have h:SN w0 base w S Q M n t f i xs false:=H
   have hib:=h.ib
   refine (leave_none h.st h.ses (by omega) (by omega) h.hi).mono ?_
   rintro e w' ⟨rfl,hs,ho⟩
   exact ⟨rfl,Q,{ h with st:=h.st.state h.ses h.bx h.lx ho,ses:=hs },{ s:=rfl,cap:=rfl,fr:=ho.mono fun k _ e=>.inr (.inl e),gr:=fun _ h=>.inl h,mg:=fun _ h=>.inl h,nn:=by omega,oth:=fun j _=>⟨Iff.rfl,[],by simp,by simp,by simp⟩,own:=by omega },Nat.le_refl _⟩
 · refine (leave_some H.2).mono ?_
   rintro e w' ⟨rfl,hs,hf⟩
   refine ⟨rfl,Q.rm i,hs,{ s:=rfl,cap:=rfl,fr:=hf.mono fun k _ hk=>hk.elim .inl fun e=>.inr (.inl (.inl e)),gr:=fun k hk=>.inl (Sx.rm_foot hk),mg:=fun k hk=>.inl (.inl hk),nn:=by omega,oth:=fun j hj=>Qs.rm_oth hj,own:=by simp [Qs.rm] },List.length_filter_le _ _⟩
theorem flush_so (H:SO w0 base w S Q M n t f i xs o false) (gone:Bool) (hn:n≤50000) (hl:∀ j ∈ Q.ids,(Q.l j).length≤99000000) :
 Calls Tryz.prog 88 #[.pointer (some ⟨xs,0,none⟩),.bool gone] w fun e w'=>∃ r lo,e=.returned r∧Own rspE 53 w.heap.size w' r lo∧(∀ r ∈ lo,EvR r∧RspOk w.heap.size w' r)∧lo.length≤198000001 ∧
  ∃ Q' o',SO w0 base w' S Q' M n t f i xs o' false∧OpS w w' S Q n i xs o 0 0 (fun _=>False) S Q' n o'∧Q'.ids=Q.ids:=by
 rcases o with _ | ⟨v,x,u,l⟩
 · refine (flush_none _ _ _ _ gone _ (SN.ses H)).mono ?_
   rintro e w' ⟨rfl,rfl⟩
   exact ⟨_,[],rfl,Own.nil _ _ _ _,by simp,by simp,Q,none,H,OpS.refl (New.refl _),rfl⟩
 · have hi:=hl i H.2.hi
   refine (dflush_any H.2 gone hn (by omega)).mono ?_
   rintro e w' ⟨r,lo,rfl,hown,hp,hlo,v',u',l',hV,hv',hf,hst,_⟩
   refine ⟨r,lo,rfl,hown,hp,by omega,_,some (v,x,u',l'),⟨rfl,hV⟩,?_,rfl⟩
   exact OpS.flushed hv' (hf.mono fun k _ hk=>by
    rcases hk with e | e | e | e
    · exact .inl e
    · exact .inr (.inl e)
    · exact .inr (.inr (.inl e))
    · exact .inr (.inr (.inr (.inl e)))) hst (List.length_filter_le _ _)
end
end Go.Proofs.YtliimglbbiebiaaGreatDoor
end

