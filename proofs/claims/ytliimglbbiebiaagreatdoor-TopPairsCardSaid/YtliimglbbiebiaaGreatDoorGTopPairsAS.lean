/- A part of the proof: View2, View3, View4, Full5, Full6, Ses, GetF. -/
import Derived.Test.YtliimglbbiebiaaGreatDoorGTopPairsAR
set_option maxRecDepth 100000
set_option maxHeartbeats 6400000
section
namespace Go.Proofs.YtliimglbbiebiaaGreatDoor
open Go.RowKit Go.Maps
structure ApI (T:Prop) (tp:Int) (w W:World) (v x:Nat) (u0:Value) (l0:List Int) (g:Bool) (u:Value) (l:List Int) (vo:Value) (lo:List Rsp) (q:Nat):Prop where
 b:Blk W w.heap.size 55 #[.pointer (some ⟨v,0,none⟩)]
 o:Blk W (w.heap.size + 1) 50 #[vo]
 a:Blk W (w.heap.size + 1 + 1) 275 #[addF (w.heap.size + 1)]
 h:Blk W (w.heap.size + 1 + 1 + 1) 278 #[.func (.func 176) #[.pointer (some ⟨v,0,none⟩)] #[],.func (.func 177) #[.pointer (some ⟨v,0,none⟩)] #[],.func (.func 178) #[.pointer (some ⟨v,0,none⟩)] #[],.func (.func 179) #[.pointer (some ⟨v,0,none⟩)] #[]]
 vw:VW W v x g
 ix:IdxU 0 W x u l
 asc:Asc l
 bd:∀ y ∈ l,0≤y∧y < tp
 r:Own rspE 53 w.heap.size W vo lo
 p:∀ r ∈ lo,EvR r∧RspOk w.heap.size W r
 ll:lo.length≤q
 fr:Fr (fun k=>k=v∨k=x∨u0.ownBlock=some k) w W
 st:Stays w u0 u
 pre:T→l0 <+: l
theorem ascTo_len {tp:Int} {l:List Int} (ha:Asc l) (hb:∀ y ∈ l,0≤y∧y < tp):l.length≤tp.toNat:=by
 cases l with
 | nil=>exact Nat.zero_le _
 | cons y t =>
   have h0:=hb y (List.mem_cons_self ..)
   have:=asc_len (lo:=0) (hi:=tp - 1) ha (fun z hz=>by have:=hb z hz; omega) (by omega)
   omega
section
variable {T:Prop} {w W W':World} {v x:Nat} {u0:Value} {l0:List Int} {g:Bool} {u:Value} {l:List Int} {vo:Value} {lo:List Rsp} {q:Nat} {tp:Int}
theorem ApI.keep (h:ApI T tp w W v x u0 l0 g u l vo lo q) {R:Nat→Prop} (hf:Fr R W W') (hR:∀ k,R k→k=v∨k=x∨u.ownBlock=some k∨k=w.heap.size + 1∨vo.ownBlock=some k) :
 (∀ k t cs,Blk W k t cs→t≠111→t≠163→t≠28→t≠50→t≠53→Blk W' k t cs)∧Fr (fun k=>k=v∨k=x∨u0.ownBlock=some k) w W':=by
 refine ⟨fun k t cs hb n1 n2 n3 n4 n5=>hf.blk hb fun hk=>?_,Fr.trans' h.fr hf fun i hi hk=>?_⟩
 · rcases hR k hk with e | e | e | e | e
   · exact hb.ne_ h.vw n1 e
   · exact hb.ne_ h.ix.1 n2 e
   · obtain ⟨cs',hc⟩:=h.ix.2.1.heap e
     exact hb.ne_ hc n3 rfl
   · exact hb.ne_ h.o n4 e
   · obtain ⟨cs',hc⟩:=h.r.heap e
     exact hb.ne_ hc n5 rfl
 · rcases hR i hk with e | e | e | e | e
   · exact .inl e
   · exact .inr (.inl e)
   · rcases h.st with e1 | ⟨b',e1,e2⟩
     · rw [e1] at e
       exact .inr (.inr e)
     · rw [e1] at e
       injection e with e
       omega
   · omega
   · have:=(h.r.block e).1
     omega
theorem exists_any (h:ApI T tp w W v x u0 l0 g u l vo lo q) (htp:tp≤50000) (hq:q≤900000000) :
 Calls Tryz.prog 175 #[.pointer (some ⟨w.heap.size + 1 + 1,0,none⟩),.pointer (some ⟨w.heap.size,0,none⟩)] W fun e W'=>e=.returned (.tuple #[])∧(∃ vo' lo',ApI T tp w W' v x u0 l0 false u l vo' lo' (q + 1))∧∀ k t cs,Blk W k t cs→t≠111→t≠163→t≠28→t≠50→t≠53→Blk W' k t cs:=by
 have hlen:=ascTo_len h.asc h.bd
 have hll:=h.ll
 cases g
 · refine (exists_no (h.a.cell 0) (h.b.cell 0) h.vw h.ix (by omega)).mono ?_
   rintro e W' ⟨rfl,hv',hf⟩
   obtain ⟨hk,hfr⟩:=h.keep hf fun k hk=>.inl hk
   exact ⟨rfl,⟨vo,lo,{ b:=hk _ _ _ h.b (by decide) (by decide) (by decide) (by decide) (by decide),o:=hf.blk h.o (fun e=>h.o.ne_ h.vw (by decide) e),a:=hk _ _ _ h.a (by decide) (by decide) (by decide) (by decide) (by decide),h:=hk _ _ _ h.h (by decide) (by decide) (by decide) (by decide) (by decide),vw:=hv',ix:=h.ix.fr hf (fun e=>h.ix.1.ne_ h.vw (by decide) e) (fun b hb e=>by
    obtain ⟨cs,hc⟩:=h.ix.2.1.heap hb
    exact hc.ne_ h.vw (by decide) e),asc:=h.asc,bd:=h.bd,r:=h.r.fr hf (fun b hb e=>h.r.ne_blk h.vw (by decide) (by rw [hb,e])),p:=fun r hr=>⟨(h.p r hr).1,(h.p r hr).2.one hf h.vw (by decide)⟩,ll:=by omega,fr:=hfr,st:=h.st,pre:=h.pre }⟩,hk⟩
 · refine (exists_yes (h.a.cell 0) (h.b.cell 0) h.vw h.ix (by omega) h.o h.r (by omega) (by have:=h.o.lt; omega) (by omega) (by omega) (h.r.ne_blk h.a (by decide)) (h.r.ne_blk h.b (by decide))).mono ?_
   rintro e W' ⟨rfl,hv',vo',ho',hr',hf,_⟩
   obtain ⟨hk,hfr⟩:=h.keep hf fun k hk=>by rcases hk with e | e | e; exact .inl e; exact .inr (.inr (.inr (.inl e))); exact .inr (.inr (.inr (.inr e)))
   have hx:∀ k t cs,Blk W k t cs→t≠111→t≠50→t≠53→¬ (k=v∨k=w.heap.size + 1∨vo.ownBlock=some k):=by
    rintro k t cs hb n1 n2 n3 (e | e | e)
    · exact hb.ne_ h.vw n1 e
    · exact hb.ne_ h.o n2 e
    · exact h.r.ne_blk hb (Ne.symm n3) e
   exact ⟨rfl,⟨vo',lo ++ [existsR l.length],{ b:=hk _ _ _ h.b (by decide) (by decide) (by decide) (by decide) (by decide),o:=ho',a:=hk _ _ _ h.a (by decide) (by decide) (by decide) (by decide) (by decide),h:=hk _ _ _ h.h (by decide) (by decide) (by decide) (by decide) (by decide),vw:=hv',ix:=h.ix.fr hf (hx _ _ _ h.ix.1 (by decide) (by decide) (by decide)) (fun b hb=>by
    obtain ⟨cs,hc⟩:=h.ix.2.1.heap hb
    exact hx _ _ _ hc (by decide) (by decide) (by decide)),asc:=h.asc,bd:=h.bd,r:=hr',p:=fun r hr=>(List.mem_append.1 hr).elim (fun hr=>⟨(h.p r hr).1,(h.p r hr).2.fr hf fun k cs _ hc=>hx _ _ _ hc (by decide) (by decide) (by decide)⟩) fun hr=>by rw [List.mem_singleton.1 hr]; exact ⟨(show bits .and .i64 0 2=0 by decide),RspOk.bare _ _ 1 l.length (by decide) ⟨by omega,by omega⟩⟩,ll:=by rw [List.length_append,List.length_singleton]; omega,fr:=hfr,st:=h.st,pre:=h.pre }⟩,hk⟩
end
end Go.Proofs.YtliimglbbiebiaaGreatDoor
end

section
namespace Go.Proofs.YtliimglbbiebiaaGreatDoor
open Go.RowKit Go.Maps
section
variable {T:Prop} {w W W':World} {v x:Nat} {u0:Value} {l0:List Int} {g:Bool} {u:Value} {l:List Int} {vo:Value} {lo:List Rsp} {q:Nat} {tp:Int}
theorem ApI.new (h:ApI T tp w W v x u0 l0 g u l vo lo q) (hn:New W W'):ApI T tp w W' v x u0 l0 g u l vo lo q :=
 { h with b:=hn.blk h.b,o:=hn.blk h.o,a:=hn.blk h.a,h:=hn.blk h.h,vw:=hn.blk h.vw,ix:=h.ix.new hn,r:=h.r.new hn,p:=fun r hr=>⟨(h.p r hr).1,(h.p r hr).2.new hn⟩,fr:=Fr.trans' h.fr hn fun _ _ e=>e.elim }
theorem ApI.hand (h:ApI T tp w W v x u0 l0 g u l vo lo q) {uid:Int} (hu:0≤uid∧uid < tp) {g':Bool} {u':Value} {l':List Int} {P2:Prop} (hP:T→P2) (s:VwS P2 W W' v x u l uid g' u' l'):ApI T tp w W' v x u0 l0 g' u' l' vo lo q:=by
 have hR:∀ k,(k=v∨k=x∨u.ownBlock=some k)→k=v∨k=x∨u.ownBlock=some k∨k=w.heap.size + 1∨vo.ownBlock=some k:=fun k hk=>by
  rcases hk with e | e | e
  · exact .inl e
  · exact .inr (.inl e)
  · exact .inr (.inr (.inl e))
 obtain ⟨hk,hfr⟩:=h.keep s.fr hR
 have hx:∀ k t cs,Blk W k t cs→t≠111→t≠163→t≠28→¬ (k=v∨k=x∨u.ownBlock=some k):=by
  rintro k t cs hb n1 n2 n3 (e | e | e)
  · exact hb.ne_ h.vw n1 e
  · exact hb.ne_ h.ix.1 n2 e
  · obtain ⟨cs',hc⟩:=h.ix.2.1.heap e
    exact hb.ne_ hc n3 rfl
 exact { b:=hk _ _ _ h.b (by decide) (by decide) (by decide) (by decide) (by decide),o:=s.fr.blk h.o (hx _ _ _ h.o (by decide) (by decide) (by decide)),a:=hk _ _ _ h.a (by decide) (by decide) (by decide) (by decide) (by decide),h:=hk _ _ _ h.h (by decide) (by decide) (by decide) (by decide) (by decide),
         vw:=s.vw,ix:=s.ix,asc:=s.asc,bd:=fun y hy=>(s.mem y hy).elim (h.bd y) fun e=>by rw [e]; exact hu,
         r:=h.r.fr s.fr (fun b hb e=>by
          obtain ⟨cs,hc⟩:=h.r.heap hb
          exact hx _ _ _ hc (by decide) (by decide) (by decide) e),p:=fun r hr=>⟨(h.p r hr).1,(h.p r hr).2.fr s.fr fun k cs _ hc=>hx _ _ _ hc (by decide) (by decide) (by decide)⟩,ll:=h.ll,fr:=hfr,
         st:=by
          rcases s.st with e1 | ⟨b',e1,e2⟩
          · rcases h.st with e3 | ⟨b'',e3,e4⟩
            · exact .inl (e1.trans e3)
            · exact .inr ⟨b'',e1.trans e3,e4⟩
          · exact .inr ⟨b',e1,by have:=h.fr.size; omega⟩
         pre:=fun ht=>(h.pre ht).trans (s.pre (hP ht)) }
theorem ApI.said (h:ApI T tp w W v x u0 l0 g u l vo lo q) (hq:q≤900000000) (r:Rsp) (ok:Bool) {B:Nat} (hB:w.heap.size≤B) (hr:EvO B W r ok) :
 Calls Tryz.prog 174 #[r.val,.bool ok,.pointer (some ⟨w.heap.size + 1,0,none⟩)] W fun e W'=>e=.returned (.tuple #[])∧(∃ vo' lo',ApI T tp w W' v x u0 l0 g u l vo' lo' (q + 1))∧∀ k t cs,Blk W k t cs→t≠111→t≠163→t≠28→t≠50→t≠53→Blk W' k t cs:=by
 have hll:=h.ll
 cases ok
 · refine (add_no r W).mono ?_
   rintro e W' ⟨rfl,hn⟩
   have h':=h.new hn
   exact ⟨rfl,⟨vo,lo,{ h' with ll:=by have:=h'.ll; omega }⟩,fun _ _ _ hb _ _ _ _ _=>hn.blk hb⟩
 · refine (add_yes r h.o h.r (by omega) (by have:=h.o.lt; omega)).mono ?_
   rintro e W' ⟨rfl,vo',ho',hr',hf,_⟩
   obtain ⟨hk,hfr⟩:=h.keep hf fun k hk=>by rcases hk with e | e; exact .inr (.inr (.inr (.inl e))); exact .inr (.inr (.inr (.inr e)))
   have hx:∀ k t cs,Blk W k t cs→t≠50→t≠53→¬ (k=w.heap.size + 1∨vo.ownBlock=some k):=by
    rintro k t cs hb n2 n3 (e | e)
    · exact hb.ne_ h.o n2 e
    · exact h.r.ne_blk hb (Ne.symm n3) e
   exact ⟨rfl,⟨vo',lo ++ [r],{ b:=hk _ _ _ h.b (by decide) (by decide) (by decide) (by decide) (by decide),o:=ho',a:=hk _ _ _ h.a (by decide) (by decide) (by decide) (by decide) (by decide),h:=hk _ _ _ h.h (by decide) (by decide) (by decide) (by decide) (by decide),vw:=hf.blk h.vw (hx _ _ _ h.vw (by decide) (by decide)),ix:=h.ix.fr hf (hx _ _ _ h.ix.1 (by decide) (by decide)) (fun b hb=>by
    obtain ⟨cs,hc⟩:=h.ix.2.1.heap hb
    exact hx _ _ _ hc (by decide) (by decide)),asc:=h.asc,bd:=h.bd,r:=hr',p:=fun r' hr2=>(List.mem_append.1 hr2).elim (fun h'=>⟨(h.p r' h').1,(h.p r' h').2.fr hf fun k cs _ hc=>hx _ _ _ hc (by decide) (by decide)⟩) fun h'=>by rw [List.mem_singleton.1 h']; exact ⟨hr.1,((hr.2 rfl).mono hB).fr hf fun k cs _ hc=>hx _ _ _ hc (by decide) (by decide)⟩,ll:=by rw [List.length_append,List.length_singleton]; omega,fr:=hfr,st:=h.st,pre:=h.pre }⟩,hk⟩
end
end Go.Proofs.YtliimglbbiebiaaGreatDoor
end

section
namespace Go.Proofs.YtliimglbbiebiaaGreatDoor
open Go.RowKit Go.Maps
theorem arrived_both {w:World} {v x:Nat} {g:Bool} {u:Value} {l:List Int} (hv:VW w v x g) (hi:IdxU 0 w x u l) (ha:Asc l) (hl:l.length≤50000) (k uid fl:Int) :
 Calls Tryz.prog 177 #[.pointer (some ⟨v,0,none⟩),.agg #[.int .i64 k,.int .u32 uid,.int .u8 fl]] w fun e w'=>∃ (r:Rsp) (ok:Bool),e=.returned (.tuple #[r.val,.bool ok])∧EvO w.heap.size w' r ok∧∃ g' u' l',VwS True w w' v x u l uid g' u' l':=by
 cases hb:(appP l uid).2
 · exact (arrived_false hv hi ha hl k uid fl hb).mono fun e w' ⟨r,ok,h1,h2,u',l',h3⟩=>⟨r,ok,h1,h2,_,u',l',h3⟩
 · exact (arrived_true hv hi ha hl k uid fl hb).mono fun e w' ⟨r,ok,h1,h2,u',l',h3⟩=>⟨r,ok,h1,h2,_,u',l',h3⟩
theorem apply_any {tp:Int} (htp:tp≤50000) {w:World} {v x bs:Nat} {u0:Value} {l0:List Int} (hv:VW w v x false) (hi:IdxU 0 w x u0 l0) (ha:Asc l0) (hbd:∀ y ∈ l0,0≤y∧y < tp) (A:Option Addr) (c:Nat) (L:List Ev) (he:Own evE 232 bs w (.slice A L.length c) L)
 (hL:∀ e ∈ L,(1≤e.k∧e.k≤3)∧(0≤e.u∧e.u < tp)∧(0≤e.f∧e.f≤255)) (hl:L.length≤200000000) :
 Calls Tryz.prog 123 #[.pointer (some ⟨v,0,none⟩),.slice A L.length c] w fun e w'=>∃ o lo,e=.returned o∧Own rspE 53 w.heap.size w' o lo∧(∀ r ∈ lo,EvR r∧RspOk w.heap.size w' r)∧lo.length≤2 * L.length + 1 ∧
  ∃ u' l',VW w' v x false∧IdxU 0 w' x u' l'∧Asc l'∧(∀ y ∈ l',0≤y∧y < tp)∧Fr (fun k=>k=v∨k=x∨u0.ownBlock=some k) w w'∧Stays w u0 u'∧((∀ e ∈ L,e.k≠2)→l0 <+: l'):=by
 have hmf:∀ (fn:Fn) (first cap:Array Value) (w:World),(Instr.makeFunc fn first cap).run Tryz.prog w=.ok (.func fn first cap) w:=fun _ _ _ _=>rfl
 have hap:=ap_any w v
 have H:=Lib.hid (And.intro hv (And.intro hi (And.intro ha (And.intro hbd (And.intro he hL)))))
 clear hi ha hbd he hL
 go_enter Tryz.func123,Tryz.ntmps123
 go_wp2_with fail
 generalize hwH:((((w.alloc (.cells #[.pointer (some ⟨v,0,none⟩)] 55)).alloc (.cells #[.slice none 0 0] 50)).alloc (.cells #[.func (.func 174) #[] #[.pointer (some ⟨w.heap.size + 1,0,none⟩)]] 275)).alloc (.cells #[.func (.func 176) #[.pointer (some ⟨v,0,none⟩)] #[],.func (.func 177) #[.pointer (some ⟨v,0,none⟩)] #[],.func (.func 178) #[.pointer (some ⟨v,0,none⟩)] #[],.func (.func 179) #[.pointer (some ⟨v,0,none⟩)] #[]] 278))=wH at hap ⊢
 clear hwH
 have H0:Hid (ApI (∀ e ∈ L,e.k≠2) tp w wH v x u0 l0 false u0 l0 (.slice none 0 0) [] 0):=Lib.hid
  { b:=hap.b,o:=hap.o,a:=hap.a,h:=hap.h,vw:=hap.n.blk H.out.1,ix:=H.out.2.1.new hap.n,asc:=H.out.2.2.1,bd:=H.out.2.2.2.1,r:=Own.nil _ _ _ _,p:=by simp,ll:=by simp,fr:=New.to hap.n,st:=.inl rfl,pre:=fun _=>List.prefix_rfl }
 clear hap
 go_loopw [26] (fun iv wr=>∃ (i:Nat) (g:Bool) (u:Value) (l:List Int) (vo:Value) (lo:List Rsp),iv=.int .i64 i∧i≤L.length∧Hid (ApI (∀ e ∈ L,e.k≠2) tp w wr v x u0 l0 g u l vo lo (2 * i))) (fun iv _=>L.length - (intOf iv).toNat)
 case atStart=>exact ⟨0,_,_,_,_,_,rfl,Nat.zero_le _,H0⟩
 case round =>
  obtain ⟨i,g,u,l,vo,lo,rfl,hiL,HR⟩:=hrel
  by_cases hkl:i < L.length
  · obtain ⟨ev,hx⟩:∃ ev,L[i]? = some ev:=⟨_,List.getElem?_eq_getElem hkl⟩
    obtain ⟨hk,huid,hfl⟩:=H.out.2.2.2.2.2 ev (List.mem_of_getElem? hx)
    have her:=H.out.2.2.2.2.1.fr HR.out.fr (fun b hb e=>by
     rcases e with e | e | e
     · exact H.out.2.2.2.2.1.ne_blk H.out.1 (by decide) (by rw [hb,e])
     · exact H.out.2.2.2.2.1.ne_blk H.out.2.1.1 (by decide) (by rw [hb,e])
     · obtain ⟨cs,hc⟩:=H.out.2.1.2.1.heap e
       exact H.out.2.2.2.2.1.ne_blk hc (by decide) hb)
    obtain ⟨_,_,hq,_,hcells⟩:=her.rd
    cases hq
    obtain ⟨b,off,rfl,hcell⟩:=hcells (by rintro rfl; simp at hkl)
    obtain ⟨ek,eu,ef⟩:=ev
    dsimp only at hk huid hfl
    have c0:wr.cell? ⟨b,off + i * 3,none⟩=some (.int .i64 ek):=hcell i _ hx 0 _ rfl
    have c1:wr.cell? ⟨b,off + i * 3 + 1,none⟩=some (.int .u32 eu):=hcell i _ hx 1 _ rfl
    have c2:wr.cell? ⟨b,off + i * 3 + 2,none⟩=some (.int .u8 ef):=hcell i _ hx 2 _ rfl
    have HKM:Hid ((∀ e ∈ L,e.k≠2)→ek≠2):=Lib.hid fun hh=>hh _ (List.mem_of_getElem? hx)
    have HE:=Lib.hid (And.intro huid hfl)
    clear hcell hcells hx her huid hfl H0
    have nE:New wr (wr.alloc (.cells #[.int .i64 ek,.int .u32 eu,.int .u8 ef] 232)):=(New.refl wr).alloc _
    have bE:Blk (wr.alloc (.cells #[.int .i64 ek,.int .u32 eu,.int .u8 ef] 232)) wr.heap.size 232 #[.int .i64 ek,.int .u32 eu,.int .u8 ef]:=Blk.new _ _ _
    have HA:=Lib.hid (And.intro (HR.out.new nE) bE)
    clear nE bE
    obtain rfl | rfl | rfl:ek=1∨ek=2∨ek=3:=by omega
    · go_upto_region 13 with fail
      generalize (wr.alloc (.cells #[.int .i64 1,.int .u32 eu,.int .u8 ef] 232))=wE at HA ⊢
      generalize wr.heap.size=EB at HA ⊢
      have k0:wE.cell? ⟨w.heap.size + 1 + 1,0,none⟩=some (addF (w.heap.size + 1)):=HA.out.1.a.cell 0
      have k1:wE.cell? ⟨w.heap.size + 1 + 1 + 1,1,none⟩=some (.func (.func 177) #[.pointer (some ⟨v,0,none⟩)] #[]):=HA.out.1.h.cell 1
      have k2:wE.cell? ⟨EB,0,none⟩=some (.int .i64 1):=HA.out.2.cell 0
      have k3:wE.cell? ⟨EB,1,none⟩=some (.int .u32 eu):=HA.out.2.cell 1
      have k4:wE.cell? ⟨EB,2,none⟩=some (.int .u8 ef):=HA.out.2.cell 2
      have hAl:=ascTo_len HA.out.1.asc HA.out.1.bd
      have HLN:Hid (l.length≤50000):=Lib.hid (by omega)
      clear hAl
      go_region_held3 (fun W=>W.cell? ⟨w.heap.size + 1 + 1,0,none⟩=some (addF (w.heap.size + 1))∧W.cell? ⟨w.heap.size + 1 + 1 + 1,1,none⟩=some (.func (.func 177) #[.pointer (some ⟨v,0,none⟩)] #[])∧W.cell? ⟨EB,0,none⟩=some (.int .i64 1)∧W.cell? ⟨EB,1,none⟩=some (.int .u32 eu)∧W.cell? ⟨EB,2,none⟩=some (.int .u8 ef)) (first | go_keep | (refine ⟨?_,?_,?_,?_,?_⟩ <;> assumption)) ((first
       | (go_at_call 177
          have hcur:=HA.out.1.new (W':=wE.drew) ((New.refl wE).drew)
          refine (arrived_both hcur.vw hcur.ix hcur.asc HLN.out 1 eu ef).mono ?_
          rintro e w2 ⟨r,ok,rfl,hr,g',u',l',hs⟩
          have A2:=hcur.hand HE.out.1 (fun _=>trivial) hs
          have bE2:=hs.fr.blk (Blk.drew HA.out.2) (by
           rintro (e | e | e)
           · exact HA.out.2.ne_ HA.out.1.vw (by decide) e
           · exact HA.out.2.ne_ HA.out.1.ix.1 (by decide) e
           · obtain ⟨cs,hc⟩:=HA.out.1.ix.2.1.heap e
             exact HA.out.2.ne_ hc (by decide) rfl)
          have p0:w2.cell? ⟨w.heap.size + 1 + 1,0,none⟩=some (addF (w.heap.size + 1)):=A2.a.cell 0
          have p1:w2.cell? ⟨w.heap.size + 1 + 1 + 1,1,none⟩=some (.func (.func 177) #[.pointer (some ⟨v,0,none⟩)] #[]):=A2.h.cell 1
          have p2:w2.cell? ⟨EB,0,none⟩=some (.int .i64 1):=bE2.cell 0
          have p3:w2.cell? ⟨EB,1,none⟩=some (.int .u32 eu):=bE2.cell 1
          have p4:w2.cell? ⟨EB,2,none⟩=some (.int .u8 ef):=bE2.cell 2
          have HA2:=Lib.hid (And.intro A2 (And.intro bE2 hr))
          clear A2 bE2 hr hs hcur)
       | (go_at_call 174
          refine (ApI.said HA2.out.1 (by omega) r ok (by have:=HA.out.1.fr.size; exact this) HA2.out.2.2).mono ?_
          rintro e w3 ⟨rfl,⟨vo3,lo3,h3⟩,hk3⟩
          have bE3:=hk3 _ _ _ HA2.out.2.1 (by decide) (by decide) (by decide) (by decide) (by decide)
          have q0:w3.cell? ⟨w.heap.size + 1 + 1,0,none⟩=some (addF (w.heap.size + 1)):=h3.a.cell 0
          have q1:w3.cell? ⟨w.heap.size + 1 + 1 + 1,1,none⟩=some (.func (.func 177) #[.pointer (some ⟨v,0,none⟩)] #[]):=h3.h.cell 1
          have q2:w3.cell? ⟨EB,0,none⟩=some (.int .i64 1):=bE3.cell 0
          have q3:w3.cell? ⟨EB,1,none⟩=some (.int .u32 eu):=bE3.cell 1
          have q4:w3.cell? ⟨EB,2,none⟩=some (.int .u8 ef):=bE3.cell 2
          have H3:=Lib.hid h3
          clear h3 bE3 hk3)
       | fail))
      go_wp2
      go_roundw
      · exact ⟨i + 1,_,_,_,vo3,lo3,rfl,by omega,Lib.hid { H3.out with ll:=by have:=H3.out.ll; omega }⟩
      · simp [intOf]; omega
    · have hEX:=exists_any HA.out.1 htp (by omega)
      have HEX:=Lib.hid hEX
      have x0:(wr.alloc (.cells #[.int .i64 2,.int .u32 eu,.int .u8 ef] 232)).cell? ⟨wr.heap.size,0,none⟩=some (.int .i64 2):=HA.out.2.cell 0
      clear hEX
      go_upto_region 12 with (first
       | (go_at_call 175
          refine HEX.out.mono ?_
          rintro e wE ⟨rfl,⟨vo9,lo9,h9⟩,hk9⟩
          have b9:=hk9 _ _ _ HA.out.2 (by decide) (by decide) (by decide) (by decide) (by decide)
          have z0:wE.cell? ⟨wr.heap.size,0,none⟩=some (.int .i64 2):=b9.cell 0
          have HA9:=Lib.hid (And.intro h9 b9)
          clear h9 b9 hk9)
       | fail)
      clear HEX HA
      have HA:=HA9
      clear HA9 x0
      generalize wr.heap.size=EB at HA ⊢ z0
      go_upto_region 13 with fail
      have k0:wE.cell? ⟨w.heap.size + 1 + 1,0,none⟩=some (addF (w.heap.size + 1)):=HA.out.1.a.cell 0
      have k1:wE.cell? ⟨w.heap.size + 1 + 1 + 1,2,none⟩=some (.func (.func 178) #[.pointer (some ⟨v,0,none⟩)] #[]):=HA.out.1.h.cell 2
      have k2:wE.cell? ⟨EB,0,none⟩=some (.int .i64 2):=HA.out.2.cell 0
      have k3:wE.cell? ⟨EB,1,none⟩=some (.int .u32 eu):=HA.out.2.cell 1
      have k4:wE.cell? ⟨EB,2,none⟩=some (.int .u8 ef):=HA.out.2.cell 2
      have hAl:=ascTo_len HA.out.1.asc HA.out.1.bd
      have HLN:Hid (l.length≤50000):=Lib.hid (by omega)
      clear hAl
      go_region_held3 (fun W=>W.cell? ⟨w.heap.size + 1 + 1,0,none⟩=some (addF (w.heap.size + 1))∧W.cell? ⟨w.heap.size + 1 + 1 + 1,2,none⟩=some (.func (.func 178) #[.pointer (some ⟨v,0,none⟩)] #[])∧W.cell? ⟨EB,0,none⟩=some (.int .i64 2)∧W.cell? ⟨EB,1,none⟩=some (.int .u32 eu)∧W.cell? ⟨EB,2,none⟩=some (.int .u8 ef)) (first | go_keep | (refine ⟨?_,?_,?_,?_,?_⟩ <;> assumption)) ((first
       | (go_at_call 178
          have hcur:=HA.out.1.new (W':=wE.drew) ((New.refl wE).drew)
          refine (gone_any hcur.vw hcur.ix hcur.asc HLN.out 2 eu ef).mono ?_
          rintro e w2 ⟨r,ok,rfl,hr,u',l',hs⟩
          have A2:=hcur.hand HE.out.1 (fun hh=>absurd rfl (HKM.out hh)) hs
          have bE2:=hs.fr.blk (Blk.drew HA.out.2) (by
           rintro (e | e | e)
           · exact HA.out.2.ne_ HA.out.1.vw (by decide) e
           · exact HA.out.2.ne_ HA.out.1.ix.1 (by decide) e
           · obtain ⟨cs,hc⟩:=HA.out.1.ix.2.1.heap e
             exact HA.out.2.ne_ hc (by decide) rfl)
          have p0:w2.cell? ⟨w.heap.size + 1 + 1,0,none⟩=some (addF (w.heap.size + 1)):=A2.a.cell 0
          have p1:w2.cell? ⟨w.heap.size + 1 + 1 + 1,2,none⟩=some (.func (.func 178) #[.pointer (some ⟨v,0,none⟩)] #[]):=A2.h.cell 2
          have p2:w2.cell? ⟨EB,0,none⟩=some (.int .i64 2):=bE2.cell 0
          have p3:w2.cell? ⟨EB,1,none⟩=some (.int .u32 eu):=bE2.cell 1
          have p4:w2.cell? ⟨EB,2,none⟩=some (.int .u8 ef):=bE2.cell 2
          have HA2:=Lib.hid (And.intro A2 (And.intro bE2 hr))
          clear A2 bE2 hr hs hcur)
       | (go_at_call 174
          refine (ApI.said HA2.out.1 (by omega) r ok (by have:=HA.out.1.fr.size; exact this) HA2.out.2.2).mono ?_
          rintro e w3 ⟨rfl,⟨vo3,lo3,h3⟩,hk3⟩
          have bE3:=hk3 _ _ _ HA2.out.2.1 (by decide) (by decide) (by decide) (by decide) (by decide)
          have q0:w3.cell? ⟨w.heap.size + 1 + 1,0,none⟩=some (addF (w.heap.size + 1)):=h3.a.cell 0
          have q1:w3.cell? ⟨w.heap.size + 1 + 1 + 1,2,none⟩=some (.func (.func 178) #[.pointer (some ⟨v,0,none⟩)] #[]):=h3.h.cell 2
          have q2:w3.cell? ⟨EB,0,none⟩=some (.int .i64 2):=bE3.cell 0
          have q3:w3.cell? ⟨EB,1,none⟩=some (.int .u32 eu):=bE3.cell 1
          have q4:w3.cell? ⟨EB,2,none⟩=some (.int .u8 ef):=bE3.cell 2
          have H3:=Lib.hid h3
          clear h3 bE3 hk3)
       | fail))
      go_wp2
      go_roundw
      · exact ⟨i + 1,_,_,_,vo3,lo3,rfl,by omega,Lib.hid { H3.out with ll:=by have:=H3.out.ll; omega }⟩
      · simp [intOf]; omega
    · have hEX:=exists_any HA.out.1 htp (by omega)
      have HEX:=Lib.hid hEX
      have x0:(wr.alloc (.cells #[.int .i64 3,.int .u32 eu,.int .u8 ef] 232)).cell? ⟨wr.heap.size,0,none⟩=some (.int .i64 3):=HA.out.2.cell 0
      clear hEX
      go_upto_region 12 with (first
       | (go_at_call 175
          refine HEX.out.mono ?_
          rintro e wE ⟨rfl,⟨vo9,lo9,h9⟩,hk9⟩
          have b9:=hk9 _ _ _ HA.out.2 (by decide) (by decide) (by decide) (by decide) (by decide)
          have z0:wE.cell? ⟨wr.heap.size,0,none⟩=some (.int .i64 3):=b9.cell 0
          have HA9:=Lib.hid (And.intro h9 b9)
          clear h9 b9 hk9)
       | fail)
      clear HEX HA
      have HA:=HA9
      clear HA9 x0
      generalize wr.heap.size=EB at HA ⊢ z0
      go_upto_region 13 with fail
      have k0:wE.cell? ⟨w.heap.size + 1 + 1,0,none⟩=some (addF (w.heap.size + 1)):=HA.out.1.a.cell 0
      have k1:wE.cell? ⟨w.heap.size + 1 + 1 + 1,3,none⟩=some (.func (.func 179) #[.pointer (some ⟨v,0,none⟩)] #[]):=HA.out.1.h.cell 3
      have k2:wE.cell? ⟨EB,0,none⟩=some (.int .i64 3):=HA.out.2.cell 0
      have k3:wE.cell? ⟨EB,1,none⟩=some (.int .u32 eu):=HA.out.2.cell 1
      have k4:wE.cell? ⟨EB,2,none⟩=some (.int .u8 ef):=HA.out.2.cell 2
      have hAl:=ascTo_len HA.out.1.asc HA.out.1.bd
      have HLN:Hid (l.length≤50000):=Lib.hid (by omega)
      clear hAl
      go_region_held3 (fun W=>W.cell? ⟨w.heap.size + 1 + 1,0,none⟩=some (addF (w.heap.size + 1))∧W.cell? ⟨w.heap.size + 1 + 1 + 1,3,none⟩=some (.func (.func 179) #[.pointer (some ⟨v,0,none⟩)] #[])∧W.cell? ⟨EB,0,none⟩=some (.int .i64 3)∧W.cell? ⟨EB,1,none⟩=some (.int .u32 eu)∧W.cell? ⟨EB,2,none⟩=some (.int .u8 ef)) (first | go_keep | (refine ⟨?_,?_,?_,?_,?_⟩ <;> assumption)) ((first
       | (go_at_call 179
          have hcur:=HA.out.1.new (W':=wE.drew) ((New.refl wE).drew)
          refine (changed_any hcur.vw hcur.ix hcur.asc HLN.out 3 eu ef HE.out.2).mono ?_
          rintro e w2 ⟨r,ok,rfl,hr,u',l',hs⟩
          have A2:=hcur.hand HE.out.1 (fun _=>trivial) hs
          have bE2:=hs.fr.blk (Blk.drew HA.out.2) (by
           rintro (e | e | e)
           · exact HA.out.2.ne_ HA.out.1.vw (by decide) e
           · exact HA.out.2.ne_ HA.out.1.ix.1 (by decide) e
           · obtain ⟨cs,hc⟩:=HA.out.1.ix.2.1.heap e
             exact HA.out.2.ne_ hc (by decide) rfl)
          have p0:w2.cell? ⟨w.heap.size + 1 + 1,0,none⟩=some (addF (w.heap.size + 1)):=A2.a.cell 0
          have p1:w2.cell? ⟨w.heap.size + 1 + 1 + 1,3,none⟩=some (.func (.func 179) #[.pointer (some ⟨v,0,none⟩)] #[]):=A2.h.cell 3
          have p2:w2.cell? ⟨EB,0,none⟩=some (.int .i64 3):=bE2.cell 0
          have p3:w2.cell? ⟨EB,1,none⟩=some (.int .u32 eu):=bE2.cell 1
          have p4:w2.cell? ⟨EB,2,none⟩=some (.int .u8 ef):=bE2.cell 2
          have HA2:=Lib.hid (And.intro A2 (And.intro bE2 hr))
          clear A2 bE2 hr hs hcur)
       | (go_at_call 174
          refine (ApI.said HA2.out.1 (by omega) r ok (by have:=HA.out.1.fr.size; exact this) HA2.out.2.2).mono ?_
          rintro e w3 ⟨rfl,⟨vo3,lo3,h3⟩,hk3⟩
          have bE3:=hk3 _ _ _ HA2.out.2.1 (by decide) (by decide) (by decide) (by decide) (by decide)
          have q0:w3.cell? ⟨w.heap.size + 1 + 1,0,none⟩=some (addF (w.heap.size + 1)):=h3.a.cell 0
          have q1:w3.cell? ⟨w.heap.size + 1 + 1 + 1,3,none⟩=some (.func (.func 179) #[.pointer (some ⟨v,0,none⟩)] #[]):=h3.h.cell 3
          have q2:w3.cell? ⟨EB,0,none⟩=some (.int .i64 3):=bE3.cell 0
          have q3:w3.cell? ⟨EB,1,none⟩=some (.int .u32 eu):=bE3.cell 1
          have q4:w3.cell? ⟨EB,2,none⟩=some (.int .u8 ef):=bE3.cell 2
          have H3:=Lib.hid h3
          clear h3 bE3 hk3)
       | fail))
      go_wp2
      go_roundw
      · exact ⟨i + 1,_,_,_,vo3,lo3,rfl,by omega,Lib.hid { H3.out with ll:=by have:=H3.out.ll; omega }⟩
      · simp [intOf]; omega
  · obtain rfl:i=L.length:=by omega
    have hEX:=exists_any HR.out htp (by omega)
    have HEX:=Lib.hid hEX
    clear hEX
    go_wp2_with fail
    refine HEX.out.mono ?_
    rintro e w4 ⟨rfl,⟨vo4,lo4,h4⟩,_⟩
    have r0:w4.cell? ⟨w.heap.size + 1,0,none⟩=some vo4:=h4.o.cell 0
    have H4:=Lib.hid h4
    clear h4
    go_wp2
    go_ret
    exact ⟨vo4,lo4,rfl,H4.out.r,H4.out.p,by have:=H4.out.ll; omega,u,l,H4.out.vw,H4.out.ix,H4.out.asc,H4.out.bd,H4.out.fr,H4.out.st,H4.out.pre⟩
end Go.Proofs.YtliimglbbiebiaaGreatDoor
end

section
namespace Go.Proofs.YtliimglbbiebiaaGreatDoor
open Go.RowKit Go.Maps
section
variable {w0 w:World} {base:Nat} {S:Sx} {Q:Qs} {M:List Msg} {n t f:Int} {x:Nat} {i:Int}
theorem leave_none (h:STX w0 base w S Q M n t f) (hs:Ses w x (.pointer (some ⟨S.s,0,none⟩)) i none false) (h0:0≤i) (h1:i≤9223372036854775807) (hi:i ∉ Q.ids) :
 Calls Tryz.prog 90 #[.pointer (some ⟨x,0,none⟩)] w fun e w'=>e=.returned (.tuple #[])∧Ses w' x (.pointer (some ⟨S.s,0,none⟩)) i none false∧One x w w':=by
 obtain ⟨k0,k1,k2,k3⟩:=hs.all4
 have f2:=hs.frozen 2
 have H:=Lib.hid (fun q=>sunsub_none (h.more ((New.refl w).drewN q)) i h0 h1 hi)
 clear h hi
 go_enter Tryz.func90,Tryz.ntmps90
 go_wp2_with fail
 go_quiet ((go_at_call 125; exact Calls.quiet_of_same (H.out _)))
 have f2':(w.drewN nq).frozen? ⟨x,2,none⟩=false:=f2
 have k2':(w.drewN nq).cell? ⟨x,2,none⟩=some (.pointer none):=k2
 go_wp2
 go_end0
 exact ⟨rfl,(hs.drewN nq).set_ 2 _,One.set (Fr.drewN (One.refl x w) nq) 2 _⟩
end
structure FV (w0:World) (base:Nat) (w:World) (S:Sx) (Q:Qs) (M:List Msg) (n t f:Int) (xs v x:Nat) (u:Value) (l:List Int):Prop where
 st:STX w0 base w S Q M n t f
 ses:Ses w xs (.pointer (some ⟨S.s,0,none⟩)) 0 (some ⟨v,0,none⟩) false
 vw:VW w v x false
 ix:IdxU 0 w x u l
 bx:base≤xs
 bv:base≤v
 nx:¬ S.foot Q x
 nu:∀ g,u.ownBlock=some g→¬ S.foot Q g
 q1:Q.ids=[0]
 lx:w0.heap.size≤xs
 lv:w0.heap.size≤v
 li:w0.heap.size≤x
 lu:∀ g,u.ownBlock=some g→w0.heap.size≤g
end Go.Proofs.YtliimglbbiebiaaGreatDoor
end

section
namespace Go.Proofs.YtliimglbbiebiaaGreatDoor
open Go.RowKit Go.Maps
end Go.Proofs.YtliimglbbiebiaaGreatDoor
end

section
namespace Go.Proofs.YtliimglbbiebiaaGreatDoor
open Go.RowKit Go.Maps
def EvOk (n:Int) (e:Ev):Prop:=(1≤e.k∧e.k≤3)∧(0≤e.u∧e.u < n)∧(0≤e.f∧e.f≤255)
theorem EvOk.up {n n':Int} {e:Ev} (h:EvOk n e) (hn:n≤n'):EvOk n' e:=⟨h.1,⟨h.2.1.1,by have:=h.2.1.2; omega⟩,h.2.2⟩
theorem squeeze_in {e:Ev}:∀ {l:List Ev},e ∈ squeeze l→e ∈ l
 | [],h=>h
 | x :: l,h=>by
   unfold squeeze at h
   split at h
   · exact List.mem_cons_of_mem _ (squeeze_in h)
   · rcases List.mem_cons.1 h with rfl | h
     · exact List.mem_cons_self ..
     · exact List.mem_cons_of_mem _ (squeeze_in h)
structure SV (w0:World) (base:Nat) (w:World) (S:Sx) (Q:Qs) (M:List Msg) (n t f:Int) (i:Int) (xs v x:Nat) (u:Value) (l:List Int):Prop where
 st:STX w0 base w S Q M n t f
 ses:Ses w xs (.pointer (some ⟨S.s,0,none⟩)) i (some ⟨v,0,none⟩) false
 vw:VW w v x false
 ix:IdxU 0 w x u l
 asc:Asc l
 bd:∀ y ∈ l,0≤y∧y < n
 bx:base≤xs
 bv:base≤v
 nx:¬ S.foot Q x
 nu:∀ g,u.ownBlock=some g→¬ S.foot Q g
 hi:i ∈ Q.ids
 ib:0≤i∧i≤1000000
 ev:∀ e ∈ Q.l i,EvOk n e
 lx:w0.heap.size≤xs
 lv:w0.heap.size≤v
 li:w0.heap.size≤x
 lu:∀ g,u.ownBlock=some g→w0.heap.size≤g
section
variable {w0 w w':World} {base:Nat} {S S':Sx} {Q Q':Qs} {M M':List Msg} {n t f n' t' f':Int} {i:Int} {xs v x:Nat} {u:Value} {l:List Int}
theorem SV.fx (h:SV w0 base w S Q M n t f i xs v x u l):¬ S.foot Q xs:=h.st.not_foot h.ses h.bx (by decide) (by decide) (by decide) (by decide) (by decide) (by decide)
theorem SV.fv (h:SV w0 base w S Q M n t f i xs v x u l):¬ S.foot Q v:=h.st.not_foot h.vw h.bv (by decide) (by decide) (by decide) (by decide) (by decide) (by decide)
theorem SV.turn (h:SV w0 base w S Q M n t f i xs v x u l) (hst:STX w0 base w' S' Q' M' n' t' f') (hS:S'.s=S.s) {R:Nat→Prop} (hf:Fr R w w') (hR:∀ k,(k=xs∨k=v∨k=x∨u.ownBlock=some k)→¬ R k) (hft:∀ k,S'.foot Q' k→S.foot Q k∨w.heap.size≤k) (hn:n≤n') (hq:i ∈ Q'.ids) (he:∀ e ∈ Q'.l i,EvOk n' e):SV w0 base w' S' Q' M' n' t' f' i xs v x u l where
 st:=hst
 ses:=by rw [hS]; exact hf.blk h.ses (hR _ (.inl rfl))
 vw:=hf.blk h.vw (hR _ (.inr (.inl rfl)))
 ix:=h.ix.fr hf (hR _ (.inr (.inr (.inl rfl)))) fun b hb=>hR _ (.inr (.inr (.inr hb)))
 asc:=h.asc
 bd:=fun y hy=>⟨(h.bd y hy).1,by have:=(h.bd y hy).2; omega⟩
 bx:=h.bx
 bv:=h.bv
 nx:=fun hk=>by
  rcases hft _ hk with hk | hk
  · exact h.nx hk
  · have:=h.ix.1.lt; omega
 nu:=fun g hg hk=>by
  rcases hft _ hk with hk | hk
  · exact h.nu g hg hk
  · have:=(h.ix.2.1.block hg).2; omega
 hi:=hq
 ib:=h.ib
 ev:=he
 lx:=h.lx
 lv:=h.lv
 li:=h.li
 lu:=h.lu
theorem SV.store (h:SV w0 base w S Q M n t f i xs v x u l) (hst:STX w0 base w' S' Q' M' n' t' f') (hS:S'.s=S.s) (hf:Fr (S.foot Q) w w') (hft:∀ k,S'.foot Q' k→S.foot Q k∨w.heap.size≤k) (hn:n≤n') (hq:i ∈ Q'.ids) (he:∀ e ∈ Q'.l i,EvOk n' e):SV w0 base w' S' Q' M' n' t' f' i xs v x u l :=
 h.turn hst hS hf (fun k hk=>by
  rcases hk with rfl | rfl | rfl | hk
  · exact h.fx
  · exact h.fv
  · exact h.nx
  · exact h.nu k hk) hft hn hq he
theorem SV.new (h:SV w0 base w S Q M n t f i xs v x u l) (hn:New w w'):SV w0 base w' S Q M n t f i xs v x u l :=
 h.store (h.st.more hn) rfl (New.to hn) (fun _ hk=>.inl hk) (Int.le_refl _) h.hi h.ev
theorem SV.view (h:SV w0 base w S Q M n t f i xs v x u l) {u':Value} {l':List Int} (hv:VW w' v x false) (hi:IdxU 0 w' x u' l') (ha:Asc l') (hb:∀ y ∈ l',0≤y∧y < n) (hf:Fr (fun k=>k=v∨k=x∨u.ownBlock=some k) w w') (hst:Stays w u u'):SV w0 base w' S Q M n t f i xs v x u' l' where
 st:=h.st.keep hf (fun k hk e=>by
    rcases e with e | e | e
    · subst e; exact h.fv hk
    · subst e; exact h.nx hk
    · exact h.nu k e hk) (fun vv ll ho b hb e=>by
    obtain ⟨cs,hcs⟩:=ho.heap hb
    rcases e with e | e | e
    · subst e; exact hcs.ne_ h.vw (by decide) rfl
    · subst e; exact hcs.ne_ h.ix.1 (by decide) rfl
    · obtain ⟨cs',hcs'⟩:=h.ix.2.1.heap e
      exact hcs.ne_ hcs' (by decide) rfl) (fun k e=>by
    rcases e with e | e | e
    · subst e; exact h.lv
    · subst e; exact h.li
    · exact h.lu k e)
 ses:=hf.blk h.ses (fun e=>by
    rcases e with e | e | e
    · exact h.ses.ne_ h.vw (by decide) e
    · exact h.ses.ne_ h.ix.1 (by decide) e
    · obtain ⟨cs',hcs'⟩:=h.ix.2.1.heap e
      exact h.ses.ne_ hcs' (by decide) rfl)
 vw:=hv
 ix:=hi
 asc:=ha
 bd:=hb
 bx:=h.bx
 bv:=h.bv
 nx:=h.nx
 nu:=fun g hg hk=>by
  rcases hst with e | ⟨b,e,hb⟩
  · rw [e] at hg; exact h.nu g hg hk
  · rw [e] at hg; injection hg with hg; have:=h.st.foot_lt hk; omega
 hi:=h.hi
 ib:=h.ib
 ev:=h.ev
 lx:=h.lx
 lv:=h.lv
 li:=h.li
 lu:=fun g hg=>by
  rcases hst with e | ⟨b,e,hb⟩
  · rw [e] at hg; exact h.lu g hg
  · rw [e] at hg; injection hg with hg; have:=h.st.new.size; omega
theorem dflush_any (h:SV w0 base w S Q M n t f i xs v x u l) (gone:Bool) (hn:n≤50000) (hl:(Q.l i).length≤100000000) :
 Calls Tryz.prog 88 #[.pointer (some ⟨xs,0,none⟩),.bool gone] w fun e w'=>∃ o lo,e=.returned o∧Own rspE 53 w.heap.size w' o lo∧(∀ r ∈ lo,EvR r∧RspOk w.heap.size w' r)∧lo.length≤2 * (Q.l i).length + 1 ∧
  ∃ v' u' l',SV w0 base w' S (Q.upd i v' ((Q.l i).filter fun x=>!(gone || decide (x.k≠2)))) M n t f i xs v x u' l'∧(∀ g,v'.ownBlock=some g→w.heap.size≤g)∧Fr (fun k=>S.foot Q k∨k=v∨k=x∨u.ownBlock=some k) w w'∧Stays w u u'∧(gone=false→l <+: l'):=by
 obtain ⟨k0,k1,k2,k3⟩:=h.ses.all4
 have H:=Lib.hid h
 have hib:=h.ib
 obtain ⟨L,hL⟩:∃ L,squeeze ((Q.l i).filter fun x=>gone || decide (x.k≠2))=L:=⟨_,rfl⟩
 have hLl:L.length≤(Q.l i).length:=by rw [← hL]; exact Nat.le_trans (squeeze_length _) (List.length_filter_le _ _)
 have hLe:∀ e ∈ L,EvOk n e:=fun e he=>h.ev e (by rw [← hL] at he; exact (List.mem_filter.1 (squeeze_in he)).1)
 have hLg:gone=false→∀ e ∈ L,e.k≠2:=fun hg e he=>by
  rw [← hL] at he
  have:=(List.mem_filter.1 (squeeze_in he)).2
  rw [hg] at this
  simpa using this
 obtain ⟨R,hR⟩:∃ R,((Q.l i).filter fun x=>!(gone || decide (x.k≠2)))=R:=⟨_,rfl⟩
 have hRe:∀ e ∈ R,EvOk n e:=fun e he=>h.ev e (by rw [← hR] at he; exact (List.mem_filter.1 he).1)
 have HF:Hid (∀ W,STX w0 base W S Q M n t f→Calls Tryz.prog 124 #[.pointer (some ⟨S.s,0,none⟩),.int .i64 i,.bool gone] W fun e w'=>∃ A c v',e=.returned (.slice A L.length c)∧Own evE 232 W.heap.size w' (.slice A L.length c) L ∧
  STX w0 base w' S (Q.upd i v' R) M n t f∧Fr (S.foot Q) W w'∧∀ g,v'.ownBlock=some g→W.heap.size≤g):=Lib.hid fun W hW=>by
  have:=sflush_x hW i (by omega) (by omega) h.hi gone (by omega)
  rw [hL,hR] at this
  exact this
 rw [hR]
 have HLL:=Lib.hid (And.intro hLl (And.intro hLe (And.intro hRe hLg)))
 clear h hL hR hLl hLe hRe hLg
 go_enter Tryz.func88,Tryz.ntmps88
 go_wp2_with fail
 go_region_held3 (fun W=>W.cell? ⟨xs,0,none⟩=some (.pointer (some ⟨S.s,0,none⟩))∧W.cell? ⟨xs,1,none⟩=some (.int .i64 i)∧W.cell? ⟨xs,2,none⟩=some (.pointer (some ⟨v,0,none⟩))) (first | go_keep | (refine ⟨?_,?_,?_⟩ <;> assumption)) ((first
  | (go_at_call 124
     refine (HF.out _ (H.out.st.more (by repeat' first | exact New.refl _ | apply Fr.alloc | apply Fr.drewN | apply Fr.drew))).mono ?_
     rintro e w2 ⟨A,c,v',rfl,ho,hst,f2,hv'⟩
     have F2:Fr (S.foot Q) w w2:=Fr.trans (New.to (by repeat' first | exact New.refl _ | apply Fr.alloc | apply Fr.drewN | apply Fr.drew)) f2
     have hft:∀ k,S.foot (Q.upd i v' R) k→S.foot Q k∨w.heap.size≤k:=fun k hk=>by
      rcases hk with hk | hk | hk | hk | hk | hk | hk
      · exact .inl (.inl hk)
      · exact .inl (.inr (.inl hk))
      · exact .inl (.inr (.inr (.inl hk)))
      · exact .inl (.inr (.inr (.inr (.inl hk))))
      · exact .inl (.inr (.inr (.inr (.inr (.inl hk)))))
      · exact .inl (.inr (.inr (.inr (.inr (.inr (.inl hk))))))
      · rcases Qs.upd_foot (m:=w.heap.size) (fun g hg=>hv' g hg) hk with hk | hk
        · exact .inl (.inr (.inr (.inr (.inr (.inr (.inr hk))))))
        · exact .inr hk
     have V2:=H.out.store hst rfl F2 hft (Int.le_refl _) H.out.hi (by simpa [Qs.upd] using HLL.out.2.2.1)
     have hs2:=V2.ses
     have p0:w2.cell? ⟨xs,0,none⟩=some (.pointer (some ⟨S.s,0,none⟩)):=hs2.cell 0
     have p1:w2.cell? ⟨xs,1,none⟩=some (.int .i64 i):=hs2.cell 1
     have p2:w2.cell? ⟨xs,2,none⟩=some (.pointer (some ⟨v,0,none⟩)):=hs2.cell 2
     have HF2:=Lib.hid F2
     have HV2:=Lib.hid V2
     have HEV:=Lib.hid (And.intro ho hv')
     clear ho hst f2 F2 hft V2 hv')
  | (go_at_call 123
     refine (apply_any hn HV2.out.vw HV2.out.ix HV2.out.asc HV2.out.bd A c L HEV.out.1 (fun e he=>HLL.out.2.1 e he) (by have:=HLL.out.1; omega)).mono ?_
     rintro e w3 ⟨o,lo,rfl,ho3,hp3,hl3,u',l',hv3,hi3,ha3,hb3,F3,st3,pr3⟩
     have V3:=HV2.out.view hv3 hi3 ha3 hb3 F3 st3
     have HO3:=Lib.hid (And.intro ho3 (And.intro hp3 (And.intro hl3 (And.intro st3 pr3))))
     clear ho3 hi3 st3 hp3 hl3 ha3 hb3 pr3
     have hs3:=V3.ses
     have q0:w3.cell? ⟨xs,0,none⟩=some (.pointer (some ⟨S.s,0,none⟩)):=hs3.cell 0
     have q1:w3.cell? ⟨xs,1,none⟩=some (.int .i64 i):=hs3.cell 1
     have q2:w3.cell? ⟨xs,2,none⟩=some (.pointer (some ⟨v,0,none⟩)):=hs3.cell 2)
  | fail))
 go_wp2
 go_ret
 have hll:=HLL.out.1
 refine ⟨o,lo,rfl,HO3.out.1.mono HF2.out.size,fun r hr=>⟨(HO3.out.2.1 r hr).1,(HO3.out.2.1 r hr).2.mono HF2.out.size⟩,by have:=HO3.out.2.2.1; omega,v',u',l',V3,HEV.out.2,Fr.trans (HF2.out.mono fun _ _ h=>.inl h) (F3.mono fun _ _ h=>.inr h),?_⟩
 exact ⟨HO3.out.2.2.2.1.mono HF2.out.size,fun hg=>HO3.out.2.2.2.2 (HLL.out.2.2.2 hg)⟩
end
end Go.Proofs.YtliimglbbiebiaaGreatDoor
end

section
namespace Go.Proofs.YtliimglbbiebiaaGreatDoor
open Go.RowKit Go.Maps
def FetR (l:List Int) (r:Rsp):Prop:=r.k=4∧(bits .and .i64 r.it 2≠0→atOf l r.n=(r.uid,true))
structure FI (w0:World) (base v x:Nat) (g:Bool) (u:Value) (l:List Int) (S:Sx) (Q:Qs) (M:List Msg) (n t f:Int) (j:Nat) (w:World) (bs:List (Nat × TypeId × Value)) (W:World):Prop where
 gi:∃ Q' M',GI w0 base v x u S Q M n t f j Q' M' w W
 vw:VW W v x g
 ix:IdxU 0 W x u l
 bx:∀ b ∈ bs,Blk W b.1 b.2.1 #[b.2.2]
theorem odd_no {W:World} {k:Nat} {ty:TypeId} {cs:Array Value} {B:Nat} (hb:Blk W k ty cs) (h1:ty≠50) (h2:ty≠198) (h3:ty≠53):¬ (B≤k∧Odd W k):=by
 rintro ⟨_,⟨o,ho,hc⟩ | ⟨ty',cs',hb',ht⟩⟩
 · rw [hb.isCells o ho] at hc
   cases hc
 · have e:=hb.symm.trans hb'
   cases e
   rcases ht with rfl | rfl | rfl
   · exact h1 rfl
   · exact h2 rfl
   · exact h3 rfl
theorem IdxU.odd {base x B:Nat} {W W':World} {u:Value} {l:List Int} (h:IdxU base W x u l) (hf:Fr (fun k=>B≤k∧Odd W k) W W'):IdxU base W' x u l :=
 h.fr hf (odd_no h.1 (by decide) (by decide) (by decide)) fun b hb=>by
  obtain ⟨cs,hc⟩:=h.2.1.heap hb
  exact odd_no hc (by decide) (by decide) (by decide)
theorem FI.odd {w0:World} {base v x B:Nat} {g:Bool} {u:Value} {l:List Int} {S:Sx} {Q:Qs} {M:List Msg} {n t f:Int} {j:Nat} {w W W':World} {bs:List (Nat × TypeId × Value)} (h:FI w0 base v x g u l S Q M n t f j w bs W)
 (hbs:∀ b ∈ bs,b.2.1≠50∧b.2.1≠198∧b.2.1≠53) (hf:Fr (fun k=>B≤k∧Odd W k) W W') (hB:base≤B) (hw:w0.heap.size≤B) (hq:S.q < B) (hBw:w.heap.size≤B):FI w0 base v x g u l S Q M n t f j w bs W':=by
 obtain ⟨Q',M',hg⟩:=h.gi
 exact { gi:=⟨Q',M',hg.odd hf hB hw hq hBw⟩,vw:=hf.blk h.vw (odd_no h.vw (by decide) (by decide) (by decide)),ix:=h.ix.odd hf,bx:=fun b hb=>hf.blk (h.bx b hb) (odd_no (h.bx b hb) (hbs b hb).1 (hbs b hb).2.1 (hbs b hb).2.2) }
theorem atOf_bd {n:Int} {l:List Int} (hl:l.length≤50000) (hlu:∀ y ∈ l,0≤y∧y < n) {p z:Int} (h:atOf l p=(z,true)):(0≤p∧p≤4294967295)∧(0≤z∧z < n):=by
 unfold atOf at h
 split at h
 · rename_i hp
   have hz:l[(p - 1).toNat]?.getD 0=z:=(Prod.mk.injEq _ _ _ _ ▸ h).1
   refine ⟨by omega,?_⟩
   have hi:(p - 1).toNat < l.length:=by omega
   rw [List.getElem?_eq_getElem hi,Option.getD_some] at hz
   have:=hlu _ (List.getElem_mem hi)
   rw [hz] at this
   exact this
 · cases (Prod.mk.injEq _ _ _ _ ▸ h).2
theorem FI.next {w0:World} {base v x B:Nat} {g:Bool} {u:Value} {l:List Int} {S:Sx} {Q Q1 Q2:Qs} {M M1 M2:List Msg} {n t f:Int} {j:Nat} {w W1 W2:World} {bs:List (Nat × TypeId × Value)} (h:FI w0 base v x g u l S Q M n t f j w bs W1)
 (hg:GI w0 base v x u S Q M n t f j Q1 M1 w W1) (hbs:∀ b ∈ bs,base≤b.1∧b.2.1≠94∧b.2.1≠155∧b.2.1≠163∧b.2.1≠28∧b.2.1≠351∧b.2.1≠232)
 (hg':GI w0 base v x u S Q M n t f (j + 1) Q2 M2 w W2) (hf:Fr (S.foot Q1) W1 W2) (hB:base≤B) (hq:S.q < B):FI w0 base v x g u l S Q M n t f (j + 1) w bs W2∧DoKeeps B v x u W1 W2 :=
 ⟨{ gi:=⟨Q2,M2,hg'⟩,vw:=hf.blk h.vw (hg.far _ (.inl rfl)),ix:=h.ix.fr hf (hg.far _ (.inr (.inl rfl))) fun _ hb=>hg.far _ (.inr (.inr hb)),
    bx:=fun b hb=>hf.blk (h.bx b hb) (hg.st.not_foot (h.bx b hb) (hbs b hb).1 (hbs b hb).2.1 (hbs b hb).2.2.1 (hbs b hb).2.2.2.1 (hbs b hb).2.2.2.2.1 (hbs b hb).2.2.2.2.2.1 (hbs b hb).2.2.2.2.2.2) },
  hg.st.doKeeps hf hB hq hg.far⟩
theorem FI.lt {w0:World} {base v x:Nat} {g:Bool} {u:Value} {l:List Int} {S:Sx} {Q:Qs} {M:List Msg} {n t f:Int} {j:Nat} {w W1:World} {bs:List (Nat × TypeId × Value)} (h:FI w0 base v x g u l S Q M n t f j w bs W1) :
 ∀ k,(k=v∨k=x∨u.ownBlock=some k)→k < W1.heap.size:=by
 rintro k (rfl | rfl | hk)
 · exact h.vw.lt
 · exact h.ix.1.lt
 · exact (h.ix.2.1.block hk).2
theorem GI.room {w0:World} {base v x:Nat} {u:Value} {l:List Int} {S:Sx} {Q Q1:Qs} {M M1:List Msg} {n t f:Int} {j:Nat} {w W1:World} (h:GI w0 base v x u S Q M n t f j Q1 M1 w W1) (hQ:∀ i ∈ Q.ids,(Q.l i).length + l.length≤100000000) (hj:j < l.length):∀ i ∈ Q1.ids,(Q1.l i).length≤100000000:=by
 intro i hi
 rw [h.ids] at hi
 obtain ⟨L,e,h1,_⟩:=h.ev i
 have:=hQ i hi
 rw [e,List.length_append]
 omega
theorem fget_any {w0 W:World} {base v x:Nat} {g:Bool} {u:Value} {l:List Int} {S:Sx} {Q:Qs} {M:List Msg} {n t f:Int} (h:STX w0 base W S Q M n t f) (hvw:VW W v x g) (hix:IdxU 0 W x u l) (hl:l.length≤50000) (hlu:∀ y ∈ l,0≤y∧y < n)
 (hfar:∀ k,(k=v∨k=x∨u.ownBlock=some k)→¬ S.foot Q k) (hQ:∀ i ∈ Q.ids,(Q.l i).length + l.length≤100000000)
 (A:Option Addr) (c:Nat) (s:List Rg) (hv:Rd rgE W (.slice A s.length c) s) (hwf:∀ r ∈ s,r.wf) (hs:s.length≤100000) (by_ items:Int) :
 Calls Tryz.prog 101 #[.pointer (some ⟨S.s,0,none⟩),.pointer (some ⟨v,0,none⟩),.int .i64 by_,.slice A s.length c,.int .i64 items] W fun e W'=>∃ vo lo code,e=.returned (.tuple #[vo,.int .i64 code])∧Own rspE 53 W.heap.size W' vo lo∧(∀ r ∈ lo,FetR l r∧RspOk W.heap.size W' r)∧lo.length≤l.length∧(code=0∨code=2∨code=3∨code=7) ∧
  ∃ j Q' M',j≤l.length∧GI w0 base v x u S Q M n t f j Q' M' W W'∧VW W' v x g∧IdxU 0 W' x u l:=by
 have hmf:∀ (fn:Fn) (first cap:Array Value) (w:World),(Instr.makeFunc fn first cap).run Tryz.prog w=.ok (.func fn first cap) w:=fun _ _ _ _=>rfl
 have hE:∀ args w,(callFunc 140 args).run Tryz.prog w=.ok (.enter 140 args) w:=enters_of Tryz.func140 (by kernel_rfl) rfl
 have H:=Lib.hid (And.intro h (And.intro hvw (And.intro hix (And.intro hfar hQ))))
 have HV:=Lib.hid (And.intro hv hwf)
 have HLU:=Lib.hid hlu
 clear h hvw hix hfar hQ hv hwf hlu
 go_enter Tryz.func101,Tryz.ntmps101
 by_cases h1:items < 1
 · have d1:decide (items < 1)=true:=decide_eq_true h1
   clear h1
   go_wp2_with fail
   go_ret2
   have n3:New W (((W.alloc (.cells #[.pointer (some ⟨S.s,0,none⟩)] 39)).alloc (.cells #[.int .i64 by_] 3)).alloc (.cells #[.int .i64 items] 3)):=(((New.refl W).alloc _).alloc _).alloc _
   exact ⟨_,[],2,rfl,Own.nil _ _ _ _,by simp,by simp,.inr (.inl rfl),0,Q,M,Nat.zero_le _,GI.init H.out.1 n3 H.out.2.2.2.1,n3.blk H.out.2.1,H.out.2.2.1.new n3⟩
 have d1:decide (items < 1)=false:=decide_eq_false h1
 by_cases h2:31 < items
 · have d2:decide (31 < items)=true:=decide_eq_true h2
   clear h1 h2
   go_wp2_with fail
   go_ret2
   have n3:New W (((W.alloc (.cells #[.pointer (some ⟨S.s,0,none⟩)] 39)).alloc (.cells #[.int .i64 by_] 3)).alloc (.cells #[.int .i64 items] 3)):=(((New.refl W).alloc _).alloc _).alloc _
   exact ⟨_,[],2,rfl,Own.nil _ _ _ _,by simp,by simp,.inr (.inl rfl),0,Q,M,Nat.zero_le _,GI.init H.out.1 n3 H.out.2.2.2.1,n3.blk H.out.2.1,H.out.2.2.1.new n3⟩
 have d2:decide (31 < items)=false:=decide_eq_false h2
 go_wp2_with fail
 have n3:New W (((W.alloc (.cells #[.pointer (some ⟨S.s,0,none⟩)] 39)).alloc (.cells #[.int .i64 by_] 3)).alloc (.cells #[.int .i64 items] 3)):=(((New.refl W).alloc _).alloc _).alloc _
 have hW3:(((W.alloc (.cells #[.pointer (some ⟨S.s,0,none⟩)] 39)).alloc (.cells #[.int .i64 by_] 3)).alloc (.cells #[.int .i64 items] 3)).heap.size=W.heap.size + 3:=by simp
 have hbW:=H.out.1.hb
 have hw0:=H.out.1.new.size
 have hsq:S.q < W.heap.size:=H.out.1.foot_lt (.inr (.inr (.inr (.inr (.inr (.inl rfl))))))
 have b1:Blk (((W.alloc (.cells #[.pointer (some ⟨S.s,0,none⟩)] 39)).alloc (.cells #[.int .i64 by_] 3)).alloc (.cells #[.int .i64 items] 3)) W.heap.size 39 #[.pointer (some ⟨S.s,0,none⟩)]:=((Blk.new _ _ _).alloc _).alloc _
 have b2:Blk (((W.alloc (.cells #[.pointer (some ⟨S.s,0,none⟩)] 39)).alloc (.cells #[.int .i64 by_] 3)).alloc (.cells #[.int .i64 items] 3)) (W.heap.size + 1) 3 #[.int .i64 by_]:=by
  have:=(Blk.new (W.alloc (.cells #[.pointer (some ⟨S.s,0,none⟩)] 39)) 3 #[.int .i64 by_]).alloc (.cells #[.int .i64 items] 3)
  rwa [World.size_alloc] at this
 have b3:Blk (((W.alloc (.cells #[.pointer (some ⟨S.s,0,none⟩)] 39)).alloc (.cells #[.int .i64 by_] 3)).alloc (.cells #[.int .i64 items] 3)) (W.heap.size + 1 + 1) 3 #[.int .i64 items]:=by
  have:=Blk.new ((W.alloc (.cells #[.pointer (some ⟨S.s,0,none⟩)] 39)).alloc (.cells #[.int .i64 by_] 3)) 3 #[.int .i64 items]
  rwa [World.size_alloc,World.size_alloc] at this
 obtain ⟨bs,hbs⟩:∃ bs:List (Nat × TypeId × Value),bs=[(W.heap.size,39,.pointer (some ⟨S.s,0,none⟩)),(W.heap.size + 1,3,.int .i64 by_),(W.heap.size + 1 + 1,3,.int .i64 items)]:=⟨_,rfl⟩
 have hty:∀ b ∈ bs,(base≤b.1∧b.2.1≠94∧b.2.1≠155∧b.2.1≠163∧b.2.1≠28∧b.2.1≠351∧b.2.1≠232)∧(b.2.1≠50∧b.2.1≠198∧b.2.1≠53):=by
  intro b hb
  rw [hbs] at hb
  simp only [List.mem_cons,List.not_mem_nil,or_false] at hb
  rcases hb with rfl | rfl | rfl <;> dsimp only <;> exact ⟨⟨by omega,by decide,by decide,by decide,by decide,by decide,by decide⟩,by decide,by decide,by decide⟩
 have h0:FI w0 base v x g u l S Q M n t f 0 W bs (((W.alloc (.cells #[.pointer (some ⟨S.s,0,none⟩)] 39)).alloc (.cells #[.int .i64 by_] 3)).alloc (.cells #[.int .i64 items] 3)) :=
  { gi:=⟨Q,M,GI.init H.out.1 n3 H.out.2.2.2.1⟩,vw:=n3.blk H.out.2.1,ix:=H.out.2.2.1.new n3,bx:=by
     intro b hb
     rw [hbs] at hb
     simp only [List.mem_cons,List.not_mem_nil,or_false] at hb
     rcases hb with rfl | rfl | rfl
     · exact b1
     · exact b2
     · exact b3 }
 have hRUN:=run_any (g:=g) hl 140 #[.pointer (some ⟨W.heap.size,0,none⟩),.pointer (some ⟨W.heap.size + 1 + 1,0,none⟩),.pointer (some ⟨W.heap.size + 1,0,none⟩)] hE A c s HV.out.2 hs (((W.alloc (.cells #[.pointer (some ⟨S.s,0,none⟩)] 39)).alloc (.cells #[.int .i64 by_] 3)).alloc (.cells #[.int .i64 items] 3))
  (fun pre W'=>FI w0 base v x g u l S Q M n t f pre.length W bs W') (fun r W'=>FetR l r∧RspOk W.heap.size W' r)
  (fun pre W1 W2 hi hf=>hi.odd (fun b hb=>(hty b hb).2) hf (by omega) (by omega) (by omega) (by omega)) (fun r W1 W2 h hf=>⟨h.1,h.2.fr hf fun k cs _ hc=>odd_no hc (by decide) (by decide) (by decide)⟩)
  (by
    intro pre y W1 hi hlen hsz
    obtain ⟨Q1,M1,hg⟩:=hi.gi
    have hyb:=atOf_bd hl HLU.out y.2
    have e1:=hi.bx (W.heap.size,39,.pointer (some ⟨S.s,0,none⟩)) (by rw [hbs]; simp)
    have e2:=hi.bx (W.heap.size + 1,3,.int .i64 by_) (by rw [hbs]; simp)
    have e3:=hi.bx (W.heap.size + 1 + 1,3,.int .i64 items) (by rw [hbs]; simp)
    refine (fget1_any hg hi.lt (hg.room H.out.2.2.2.2 hlen) e1 e3 e2 (by omega) (by omega) (by omega) y.1.1 y.1.2 hyb.1.1 hyb.1.2 hyb.2.1 hyb.2.2).mono ?_
    rintro e W2 ⟨r,told,there,Q2,M2,he,htold,hg2,hf2⟩
    obtain ⟨a1,a2⟩:=hi.next hg (fun b hb=>(hty b hb).1) hg2 hf2 (B:=(((W.alloc (.cells #[.pointer (some ⟨S.s,0,none⟩)] 39)).alloc (.cells #[.int .i64 by_] 3)).alloc (.cells #[.int .i64 items] 3)).heap.size) (by omega) (by omega)
    refine ⟨r,told,there,he,fun ht=>⟨⟨(htold ht).1.1,fun hit=>?_⟩,(htold ht).2.mono (by omega)⟩,by rw [List.length_append]; exact a1,a2,fun r h=>⟨h.1,h.2.fr hf2 fun k cs hk hc=>hg.st.not_foot hc (by omega) (by decide) (by decide) (by decide) (by decide) (by decide) (by decide)⟩⟩
    rw [(htold ht).1.2.1,(htold ht).1.2.2 hit]
    exact y.2)
  (n3.blk H.out.2.1) (H.out.2.2.1.new n3) (HV.out.1.new n3) h0
 refine hRUN.mono ?_
 rintro e W' ⟨vo,lo,code,rfl,hown,hp,hlo,hcode,pre,hpre,hi⟩
 obtain ⟨Q1,M1,hg⟩:=hi.gi
 go_wp2
 go_ret2
 exact ⟨vo,lo,code,rfl,hown.mono (by omega),hp,hlo,by omega,pre.length,Q1,M1,hpre,hg,hi.vw,hi.ix⟩
end Go.Proofs.YtliimglbbiebiaaGreatDoor
end

