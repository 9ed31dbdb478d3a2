/- A part of the proof of a law of carouseltop: CrsG. -/
import Derived.Test.YtgfogfciobmmpaaGreatDoorCAa
import Derived.BigQuiet
import Derived.Deep.CutRange
set_option linter.unusedSimpArgs false
set_option linter.unusedVariables false
set_option maxRecDepth 100000
set_option maxHeartbeats 8000000
namespace Go.Proofs.YtgfogfciobmmpaaGreatDoor
open Go.RowKit
section
def Ed(n:Nat):Code->Option Code
 | .region id ops d=>if id=n then some (.region id ops d)else none
 | .loop c=>Ed n c
 | .seq a b=>match Ed n a with
  | some c=>some c
  | none=>Ed n b
 | .block _ c=>Ed n c
 | .scope c=>Ed n c
 | .cond _ a b=>match Ed n a with
  | some c=>some c
  | none=>Ed n b
 | _=>none
variable {aa ad ae ak am an ao av a0 a1 a2 a3 a4 a5 a6 a7 a8 a9 bc bd bf bk bl bn bo bp bq bs bt bw bx b0 b1 b2 b3 b4 b5 b6 b7 b8 b9 ca cb cc cf cj cm cp cs cv cy cI df dg dr ds dv dT d0 d1 d2 d3 d4 d5 d6 d7 d8 d9 ed ee em en eo eq ev ex ey e0 e1 e3 e4 e5 e6 e7 e8 e9 fb fk fn fr fs f0 f1 f2 f4 f5 f6 f7 f8 f9 gc gj gk gp gs gA gS gZ g0 g1 g2 g3 g4 g5 g6 g7 g8 g9 ha hb hc he hf hh hj hl hm hn ho hp hq hr hs hu hw hx hy hz hA hB hC hD hE hF hG hH hI hJ hK hL hM hN hO hP hR hS hT hU hV hW hX hY hZ h1 h4 h5 h6 h7 h8 h9 ih ii i0 i1 i3 i4 i5 i6 i7 i8 i9 ja jb jc jd jf ji jl jo jp jt jv jC j0 j1 j2 j3 j4 j5 j6 j7 ka kd kk kl km kn kt kv kw kO k0 k1 k4 k5 k7 k8 k9 la lb lc ld le lg lh li ln lo lp ls lt lv lw ly l0 l1:Value}
attribute [local go_sem] tV zN
attribute [local go_sem ↓] jJ iL
attribute [local go_sem] iN mW gI
theorem crs18{Q:Exit->Act->World->Prop}{w:World}{g n ec i k:Nat}{ky ty tx:Int}
  (k3:w.cell? ⟨g,k*19+3,none⟩=some (.int .i64 ky)) (k2:w.cell? ⟨g,k*19+2,none⟩=some (.int .i64 ty)) (i2:w.cell? ⟨g,i*19+2,none⟩=some (.int .i64 tx)) (hg:g<w.heap.size) (hk:(k:Int)<(n:Int)) (hi:(i:Int)<(n:Int)) (hec:(n:Int)<=(ec:Int))
  (hQ:∀ (l2 l3 l4 l5 l6 l7 l8 l9 mb mc mk mo mp mq mr mt mw mx:Value) (q:Nat),Q .normal ⟨List.toArray (aa::ad::ae::ak::am::an::ao::av::.slice (some ⟨g,0,none⟩) n ec::a1::.int .i64 (i:Nat)::a3::.int .i64 (k:Nat)::a5::a6::a7::a8::a9::bc::bd::bf::bk::bl::bn::bo::bp::bq::bs::bt::bw::bx::b0::b1::b2::b3::b4::b5::b6::b7::b8::b9::ca::cb::cc::cf::cj::cm::cp::cs::cv::cy::cI::df::dg::dr::ds::dv::dT::d0::d1::d2::d3::d4::d5::d6::l2::l3::l4::l5::l6::l7::l8::l9::mb::mc::mk::mo::mp::mq::mr::mt::mw::mx::.bool (decide (ky=3/\ty=tx))::e8::e9::fb::fk::fn::fr::fs::f0::f1::f2::f4::f5::f6::f7::f8::f9::gc::gj::gk::gp::gs::gA::gS::gZ::g0::g1::g2::g3::g4::g5::g6::g7::g8::g9::ha::hb::hc::he::hf::hh::hj::hl::hm::hn::ho::hp::hq::hr::hs::hu::hw::hx::hy::hz::hA::hB::hC::hD::hE::hF::hG::hH::hI::hJ::hK::hL::hM::hN::hO::hP::hR::hS::hT::hU::hV::hW::hX::hY::hZ::h1::h4::h5::h6::h7::h8::h9::ih::ii::i0::i1::i3::i4::i5::i6::i7::i8::i9::ja::jb::jc::jd::jf::ji::jl::jo::jp::jt::jv::jC::j0::j1::j2::j3::j4::j5::j6::j7::ka::kd::kk::kl::km::kn::kt::kv::kw::kO::k0::k1::k4::k5::k7::k8::k9::la::lb::lc::ld::le::lg::lh::li::ln::lo::lp::ls::lt::lv::lw::ly::l0::l1::[]),[]⟩ (w.drewN q)) :
  Code.wp Tryz.prog ((Tryz.f3.body.bind (Ed 18)).getD .skip) Q ⟨List.toArray (aa::ad::ae::ak::am::an::ao::av::.slice (some ⟨g,0,none⟩) n ec::a1::.int .i64 (i:Nat)::a3::.int .i64 (k:Nat)::a5::a6::a7::a8::a9::bc::bd::bf::bk::bl::bn::bo::bp::bq::bs::bt::bw::bx::b0::b1::b2::b3::b4::b5::b6::b7::b8::b9::ca::cb::cc::cf::cj::cm::cp::cs::cv::cy::cI::df::dg::dr::ds::dv::dT::d0::d1::d2::d3::d4::d5::d6::d7::d8::d9::ed::ee::em::en::eo::eq::ev::ex::ey::e0::e1::e3::e4::e5::e6::e7::e8::e9::fb::fk::fn::fr::fs::f0::f1::f2::f4::f5::f6::f7::f8::f9::gc::gj::gk::gp::gs::gA::gS::gZ::g0::g1::g2::g3::g4::g5::g6::g7::g8::g9::ha::hb::hc::he::hf::hh::hj::hl::hm::hn::ho::hp::hq::hr::hs::hu::hw::hx::hy::hz::hA::hB::hC::hD::hE::hF::hG::hH::hI::hJ::hK::hL::hM::hN::hO::hP::hR::hS::hT::hU::hV::hW::hX::hY::hZ::h1::h4::h5::h6::h7::h8::h9::ih::ii::i0::i1::i3::i4::i5::i6::i7::i8::i9::ja::jb::jc::jd::jf::ji::jl::jo::jp::jt::jv::jC::j0::j1::j2::j3::j4::j5::j6::j7::ka::kd::kk::kl::km::kn::kt::kv::kw::kO::k0::k1::k4::k5::k7::k8::k9::la::lb::lc::ld::le::lg::lh::li::ln::lo::lp::ls::lt::lv::lw::ly::l0::l1::[]),[]⟩ w:=by
 conv=>arg 2;whnf
 by_cases h3:ky=3
 ·subst h3
  by_cases ht:ty=tx
  ·subst ht
   have hd:decide ((3:Int)=3/\ty=ty)=true:=by simp
   rw[hd]at hQ
   have HQ:=kH hQ
   clear hQ hd
   go_quiet(fail)
   apply HQ.out
  ·have hd:decide ((3:Int)=3/\ty=tx)=false:=by simp[ht]
   have ht':(ty == tx)=false:=by simp[ht]
   rw[hd]at hQ
   have HQ:=kH hQ
   clear hQ hd ht
   go_quiet(fail)
   apply HQ.out
 ·have hd:decide (ky=3/\ty=tx)=false:=by simp[h3]
  have h3':(ky == 3)=false:=by simp[h3]
  rw[hd]at hQ
  have HQ:=kH hQ
  clear hQ hd h3
  go_quiet(fail)
  apply HQ.out
theorem crs34{Q:Exit->Act->World->Prop}{w:World}{g n ec i k:Nat}{ky ty tx:Int}{ow:Bool}
  (k3:w.cell? ⟨g,k*19+3,none⟩=some (.int .i64 ky)) (k2:w.cell? ⟨g,k*19+2,none⟩=some (.int .i64 ty)) (k6:w.cell? ⟨g,k*19+6,none⟩=some (.bool ow)) (i2:w.cell? ⟨g,i*19+2,none⟩=some (.int .i64 tx)) (hg:g<w.heap.size) (hk:(k:Int)<(n:Int)) (hi:(i:Int)<(n:Int)) (hec:(n:Int)<=(ec:Int))
  (hQ:∀ (mP m1 m2 m3 m4 m6 m7 m8 m9 nc ne nj nl nn np nq nt nw nx n5 n6 n7 n8 n9 oa ob:Value) (q:Nat),Q .normal ⟨List.toArray (aa::ad::ae::ak::am::an::ao::av::.slice (some ⟨g,0,none⟩) n ec::a1::.int .i64 (i:Nat)::a3::a4::a5::a6::a7::a8::.int .i64 (k:Nat)::bc::bd::bf::bk::bl::bn::bo::bp::bq::bs::bt::bw::bx::b0::b1::b2::b3::b4::b5::b6::b7::b8::b9::ca::cb::cc::cf::cj::cm::cp::cs::cv::cy::cI::df::dg::dr::ds::dv::dT::d0::d1::d2::d3::d4::d5::d6::d7::d8::d9::ed::ee::em::en::eo::eq::ev::ex::ey::e0::e1::e3::e4::e5::e6::e7::e8::e9::fb::fk::fn::fr::fs::f0::f1::f2::f4::f5::f6::f7::f8::f9::gc::gj::gk::gp::gs::gA::gS::gZ::g0::g1::g2::g3::g4::g5::g6::g7::g8::g9::ha::hb::hc::he::hf::hh::hj::hl::hm::hn::ho::hp::hq::hr::hs::hu::hw::hx::hy::hz::hA::hB::hC::hD::hE::mP::m1::m2::m3::m4::m6::m7::m8::m9::nc::ne::nj::nl::nn::np::nq::nt::nw::nx::n5::n6::n7::n8::n9::oa::ob::.bool (decide (ky=2/\ty=tx/\ow=false))::ih::ii::i0::i1::i3::i4::i5::i6::i7::i8::i9::ja::jb::jc::jd::jf::ji::jl::jo::jp::jt::jv::jC::j0::j1::j2::j3::j4::j5::j6::j7::ka::kd::kk::kl::km::kn::kt::kv::kw::kO::k0::k1::k4::k5::k7::k8::k9::la::lb::lc::ld::le::lg::lh::li::ln::lo::lp::ls::lt::lv::lw::ly::l0::l1::[]),[]⟩ (w.drewN q)) :
  Code.wp Tryz.prog ((Tryz.f3.body.bind (Ed 34)).getD .skip) Q ⟨List.toArray (aa::ad::ae::ak::am::an::ao::av::.slice (some ⟨g,0,none⟩) n ec::a1::.int .i64 (i:Nat)::a3::a4::a5::a6::a7::a8::.int .i64 (k:Nat)::bc::bd::bf::bk::bl::bn::bo::bp::bq::bs::bt::bw::bx::b0::b1::b2::b3::b4::b5::b6::b7::b8::b9::ca::cb::cc::cf::cj::cm::cp::cs::cv::cy::cI::df::dg::dr::ds::dv::dT::d0::d1::d2::d3::d4::d5::d6::d7::d8::d9::ed::ee::em::en::eo::eq::ev::ex::ey::e0::e1::e3::e4::e5::e6::e7::e8::e9::fb::fk::fn::fr::fs::f0::f1::f2::f4::f5::f6::f7::f8::f9::gc::gj::gk::gp::gs::gA::gS::gZ::g0::g1::g2::g3::g4::g5::g6::g7::g8::g9::ha::hb::hc::he::hf::hh::hj::hl::hm::hn::ho::hp::hq::hr::hs::hu::hw::hx::hy::hz::hA::hB::hC::hD::hE::hF::hG::hH::hI::hJ::hK::hL::hM::hN::hO::hP::hR::hS::hT::hU::hV::hW::hX::hY::hZ::h1::h4::h5::h6::h7::h8::h9::ih::ii::i0::i1::i3::i4::i5::i6::i7::i8::i9::ja::jb::jc::jd::jf::ji::jl::jo::jp::jt::jv::jC::j0::j1::j2::j3::j4::j5::j6::j7::ka::kd::kk::kl::km::kn::kt::kv::kw::kO::k0::k1::k4::k5::k7::k8::k9::la::lb::lc::ld::le::lg::lh::li::ln::lo::lp::ls::lt::lv::lw::ly::l0::l1::[]),[]⟩ w:=by
 conv=>arg 2;whnf
 by_cases h2:ky=2
 ·subst h2
  by_cases ht:ty=tx
  ·subst ht
   cases ow with
   | false =>
    have hd:decide ((2:Int)=2/\ty=ty/\false=false)=true:=by simp
    rw[hd]at hQ
    have HQ:=kH hQ
    clear hQ hd
    go_quiet(fail)
    apply HQ.out
   | true =>
    have hd:decide ((2:Int)=2/\ty=ty/\true=false)=false:=by simp
    rw[hd]at hQ
    have HQ:=kH hQ
    clear hQ hd
    go_quiet(fail)
    apply HQ.out
  ·have hd:decide ((2:Int)=2/\ty=tx/\ow=false)=false:=by simp[ht]
   have ht':(ty == tx)=false:=by simp[ht]
   clear ht
   rw[hd]at hQ
   have HQ:=kH hQ
   clear hQ hd
   go_quiet(fail)
   apply HQ.out
 ·have hd:decide (ky=2/\ty=tx/\ow=false)=false:=by simp[h2]
  have h2':(ky == 2)=false:=by simp[h2]
  clear h2
  rw[hd]at hQ
  have HQ:=kH hQ
  clear hQ hd
  go_quiet(fail)
  apply HQ.out
theorem crs36{K K1 K2 K3:Act->World->Prop}{R:Ending->World->Prop}{w:World}{g n ec i br:Nat}{A B:Array Value}{lx:List Value}{w1:World}{X:List Nat}{Cs:List aw}
  (m0:ck w br A) (mX:eX w g (i*19+10) lx) (hcsX:fR B) (HUN:Hid (∀ w,Calls Tryz.prog 11 #[.agg A,.agg lx.toArray] w (dd (.agg B) w))) (HS:Hid (ah w1 X (ag br (.cells A 42 (0,0))::Cs) w)) (hg:g<w.heap.size) (hi:(i:Int)<(n:Int)) (hec:(n:Int)<=(ec:Int))
  (hQ:∀ (oc ok ol op os ov ox:Value) (bu:Nat) (W:World),ah w1 X (ag bu (.cells B 42 (0,0))::ag br (.cells A 42 (0,0))::Cs) W->K ⟨List.toArray (aa::ad::ae::ak::am::an::ao::av::.slice (some ⟨g,0,none⟩) n ec::a1::.int .i64 (i:Nat)::a3::a4::a5::a6::a7::.pointer (some ⟨br,0,none⟩)::a9::.pointer (some ⟨bu,0,none⟩)::bd::bf::bk::bl::bn::bo::bp::bq::bs::bt::bw::bx::b0::b1::b2::b3::b4::b5::b6::b7::b8::b9::ca::cb::cc::cf::cj::cm::cp::cs::cv::cy::cI::df::dg::dr::ds::dv::dT::d0::d1::d2::d3::d4::d5::d6::d7::d8::d9::ed::ee::em::en::eo::eq::ev::ex::ey::e0::e1::e3::e4::e5::e6::e7::e8::e9::fb::fk::fn::fr::fs::f0::f1::f2::f4::f5::f6::f7::f8::f9::gc::gj::gk::gp::gs::gA::gS::gZ::g0::g1::g2::g3::g4::g5::g6::g7::g8::g9::ha::hb::hc::he::hf::hh::hj::hl::hm::hn::ho::hp::hq::hr::hs::hu::hw::hx::hy::hz::hA::hB::hC::hD::hE::hF::hG::hH::hI::hJ::hK::hL::hM::hN::hO::hP::hR::hS::hT::hU::hV::hW::hX::hY::hZ::h1::h4::h5::h6::h7::h8::h9::ih::ii::i0::i1::i3::i4::i5::oc::ok::ol::op::os::ov::ox::jd::jf::ji::jl::jo::jp::jt::jv::jC::j0::j1::j2::j3::j4::j5::j6::j7::ka::kd::kk::kl::km::kn::kt::kv::kw::kO::k0::k1::k4::k5::k7::k8::k9::la::lb::lc::ld::le::lg::lh::li::ln::lo::lp::ls::lt::lv::lw::ly::l0::l1::[]),[]⟩ W) :
  Code.wp Tryz.prog ((Tryz.f3.body.bind (Ed 36)).getD .skip) (Exit.then K (Exit.inBlock 3 (Exit.then K1 (Exit.then K2 (Exit.inBlock 2 (Exit.then K3 (bodyPost Tryz.prog Tryz.f3 R))))))) ⟨List.toArray (aa::ad::ae::ak::am::an::ao::av::.slice (some ⟨g,0,none⟩) n ec::a1::.int .i64 (i:Nat)::a3::a4::a5::a6::a7::.pointer (some ⟨br,0,none⟩)::a9::bc::bd::bf::bk::bl::bn::bo::bp::bq::bs::bt::bw::bx::b0::b1::b2::b3::b4::b5::b6::b7::b8::b9::ca::cb::cc::cf::cj::cm::cp::cs::cv::cy::cI::df::dg::dr::ds::dv::dT::d0::d1::d2::d3::d4::d5::d6::d7::d8::d9::ed::ee::em::en::eo::eq::ev::ex::ey::e0::e1::e3::e4::e5::e6::e7::e8::e9::fb::fk::fn::fr::fs::f0::f1::f2::f4::f5::f6::f7::f8::f9::gc::gj::gk::gp::gs::gA::gS::gZ::g0::g1::g2::g3::g4::g5::g6::g7::g8::g9::ha::hb::hc::he::hf::hh::hj::hl::hm::hn::ho::hp::hq::hr::hs::hu::hw::hx::hy::hz::hA::hB::hC::hD::hE::hF::hG::hH::hI::hJ::hK::hL::hM::hN::hO::hP::hR::hS::hT::hU::hV::hW::hX::hY::hZ::h1::h4::h5::h6::h7::h8::h9::ih::ii::i0::i1::i3::i4::i5::i6::i7::i8::i9::ja::jb::jc::jd::jf::ji::jl::jo::jp::jt::jv::jC::j0::j1::j2::j3::j4::j5::j6::j7::ka::kd::kk::kl::km::kn::kt::kv::kw::kO::k0::k1::k4::k5::k7::k8::k9::la::lb::lc::ld::le::lg::lh::li::ln::lo::lp::ls::lt::lv::lw::ly::l0::l1::[]),[]⟩ w:=by
 conv=>arg 2;whnf
 have n0:ck w.drew br A:=⟨m0.at_,m0.len⟩
 have n1:∀ o,ck (w.alloc o).drew br A:=fun o=>⟨bS m0.at_,m0.len⟩
 have n2:eX w.drew g (i*19+10) lx:=⟨mX.at_,mX.len⟩
 have n3:∀ o,eX (w.alloc o).drew g (i*19+10) lx:=fun o=>⟨fun j v hv=>(World.cell?_of_block (by
  show(w.alloc o).heap[g]?=w.heap[g]?
  exact Below.heap_alloc w o g hg)).trans (mX.at_ j v hv),mX.len⟩
 have n4:∀ W:World,ck (W.alloc (.cells #[.int .u64 0,.int .u64 0,.int .u64 0,.int .u64 0,.int .u64 0,.int .u64 0,.int .u64 0,.int .u64 0] 42 (0,0))) W.heap.size #[.int .u64 0,.int .u64 0,.int .u64 0,.int .u64 0,.int .u64 0,.int .u64 0,.int .u64 0,.int .u64 0]:=fun W=>⟨ar rfl,rfl⟩
 have HNW:=kH (HS.out.new (.cells #[.int .u64 0,.int .u64 0,.int .u64 0,.int .u64 0,.int .u64 0,.int .u64 0,.int .u64 0,.int .u64 0] 42 (0,0)))
 have HQ:=kH hQ
 clear hQ m0 mX
 go_region_with(first|(go_at_call 11;refine(HUN.out _).mono ?_;rintro e2 w6 ⟨rfl,hb6⟩;have m5:ck w6 w.heap.size #[.int .u64 0,.int .u64 0,.int .u64 0,.int .u64 0,.int .u64 0,.int .u64 0,.int .u64 0,.int .u64 0]:=⟨it hb6 (ar rfl),rfl⟩;have HS6:=kH (HNW.out.drew.below hb6))|(go_at_call 11;refine(HUN.out _).mono ?_;rintro e2 w6 ⟨rfl,hb6⟩;have HS6:=kH (HS.out.drew.below hb6)))
 all_goals go_wp2_with fail
 all_goals first|exact HQ.out _ _ _ _ _ _ _ _ _ (HS6.out.setSigRow B)|exact HQ.out _ _ _ _ _ _ _ _ _ ((HS6.out.new _).setSigRow B)
theorem crs39{Q:Exit->Act->World->Prop}{w:World}{g n ec i br bu nb nf xc yc:Nat}{xa ya:Option Addr}{SB:Bool}{er:Int}{A B:Array Value}{lx:List Value}
  (m16:ck w br A) (m18:ck w bu B) (mX:eX w g (i*19+10) lx) (i18:w.cell? ⟨g,i*19+18,none⟩=some (.int .i64 er)) (hg:g<w.heap.size) (hi:(i:Int)<(n:Int)) (hec:(n:Int)<=(ec:Int)) (hfew:(nb:Int)<=(nf:Int)+1) (hnf:(nf:Int)<=512)
  (HS1:Hid (nM B lx.toArray)) (HS2:Hid (er=0->nM A lx.toArray)) (HMET:Hid (er=3->SB=true))
  (hQ:∀ (o1 o2 o3 o4 pa pb pc pf pg ph pn ps pt pv pC p0 p1 p2 p3 p4 p5 p6 p7 p8 q0 q1 q2 q3 q4 q5 q6 q7 q8 ra rc rd rg ri rn rs rt rv r0:Value) (q:Nat),Q .normal ⟨List.toArray (aa::ad::ae::ak::am::an::ao::av::.slice (some ⟨g,0,none⟩) n ec::a1::.int .i64 (i:Nat)::a3::a4::.bool SB::a6::a7::.pointer (some ⟨br,0,none⟩)::a9::.pointer (some ⟨bu,0,none⟩)::.slice xa nb xc::.slice ya nf yc::bk::bl::bn::bo::bp::bq::bs::bt::bw::bx::b0::b1::b2::b3::b4::b5::b6::b7::b8::b9::ca::cb::cc::cf::cj::cm::cp::cs::cv::cy::cI::df::dg::dr::ds::dv::dT::d0::d1::d2::d3::d4::d5::d6::d7::d8::d9::ed::ee::em::en::eo::eq::ev::ex::ey::e0::e1::e3::e4::e5::e6::e7::e8::e9::fb::fk::fn::fr::fs::f0::f1::f2::f4::f5::f6::f7::f8::f9::gc::gj::gk::gp::gs::gA::gS::gZ::g0::g1::g2::g3::g4::g5::g6::g7::g8::g9::ha::hb::hc::he::hf::hh::hj::hl::hm::hn::ho::hp::hq::hr::hs::hu::hw::hx::hy::hz::hA::hB::hC::hD::hE::hF::hG::hH::hI::hJ::hK::hL::hM::hN::hO::hP::hR::hS::hT::hU::hV::hW::hX::hY::hZ::h1::h4::h5::h6::h7::h8::h9::ih::ii::i0::i1::i3::i4::i5::i6::i7::i8::i9::ja::jb::jc::jd::jf::ji::jl::jo::jp::jt::jv::o1::o2::o3::o4::pa::pb::pc::pf::pg::ph::pn::ps::pt::pv::pC::p0::p1::p2::p3::p4::p5::p6::p7::p8::q0::q1::q2::q3::q4::q5::q6::q7::q8::ra::rc::rd::rg::ri::rn::rs::rt::rv::r0::.bool false::[]),[]⟩ (w.drewN q)) :
  Code.wp Tryz.prog ((Tryz.f3.body.bind (Ed 39)).getD .skip) Q ⟨List.toArray (aa::ad::ae::ak::am::an::ao::av::.slice (some ⟨g,0,none⟩) n ec::a1::.int .i64 (i:Nat)::a3::a4::.bool SB::a6::a7::.pointer (some ⟨br,0,none⟩)::a9::.pointer (some ⟨bu,0,none⟩)::.slice xa nb xc::.slice ya nf yc::bk::bl::bn::bo::bp::bq::bs::bt::bw::bx::b0::b1::b2::b3::b4::b5::b6::b7::b8::b9::ca::cb::cc::cf::cj::cm::cp::cs::cv::cy::cI::df::dg::dr::ds::dv::dT::d0::d1::d2::d3::d4::d5::d6::d7::d8::d9::ed::ee::em::en::eo::eq::ev::ex::ey::e0::e1::e3::e4::e5::e6::e7::e8::e9::fb::fk::fn::fr::fs::f0::f1::f2::f4::f5::f6::f7::f8::f9::gc::gj::gk::gp::gs::gA::gS::gZ::g0::g1::g2::g3::g4::g5::g6::g7::g8::g9::ha::hb::hc::he::hf::hh::hj::hl::hm::hn::ho::hp::hq::hr::hs::hu::hw::hx::hy::hz::hA::hB::hC::hD::hE::hF::hG::hH::hI::hJ::hK::hL::hM::hN::hO::hP::hR::hS::hT::hU::hV::hW::hX::hY::hZ::h1::h4::h5::h6::h7::h8::h9::ih::ii::i0::i1::i3::i4::i5::i6::i7::i8::i9::ja::jb::jc::jd::jf::ji::jl::jo::jp::jt::jv::jC::j0::j1::j2::j3::j4::j5::j6::j7::ka::kd::kk::kl::km::kn::kt::kv::kw::kO::k0::k1::k4::k5::k7::k8::k9::la::lb::lc::ld::le::lg::lh::li::ln::lo::lp::ls::lt::lv::lw::ly::l0::l1::[]),[]⟩ w:=by
 conv=>arg 2;whnf
 have q16:∀ q,ck (w.drewN q) br A:=fun q=>⟨m16.at_,m16.len⟩
 have q18:∀ q,ck (w.drewN q) bu B:=fun q=>⟨m18.at_,m18.len⟩
 have qX:∀ q,eX (w.drewN q) g (i*19+10) lx:=fun q=>⟨mX.at_,mX.len⟩
 have hwr:IntKind.i64.wrap ((nf:Int)+1)=(nf:Int)+1:=IntWalk.i64_in _ (by omega)
 have hgt:decide ((nf:Int)+1<(nb:Int))=false:=decide_eq_false (by omega)
 have hsame:=HS1.out
 by_cases h3:er=3
 ·subst h3
  have hsbt:SB=true:=HMET.out rfl
  subst hsbt
  have HQ:=kH hQ
  clear hQ
  go_quiet(fail)
  apply HQ.out
 ·by_cases h0:er=0
  ·subst h0
   have hsame2:=HS2.out rfl
   have HQ:=kH hQ
   clear hQ
   go_quiet(fail)
   apply HQ.out
  ·have h3':(er == 3)=false:=by simp[h3]
   have h0':(er == 0)=false:=by simp[h0]
   clear h3 h0
   have HQ:=kH hQ
   clear hQ
   go_quiet(fail)
   apply HQ.out
end
end Go.Proofs.YtgfogfciobmmpaaGreatDoor
