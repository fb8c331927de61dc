/- Texts of one chain, put together (Facts, N0, N1, N2, N3, N4, N5). -/
import Derived.Test.YtajeeghgiilhiaaGreatRows
import Derived.Test.YtajeeghgiilhiaaGreatKwF
import Derived.Test.YtajeeghgiilhiaaGreatKwE
set_option linter.unusedVariables false
set_option linter.unusedSimpArgs false
set_option maxHeartbeats 16000000
set_option maxRecDepth 8000
section
namespace Go.Proofs.YtajeeghgiilhiaaGreat
open Go Go.Abs
theorem P7:dX Tryz.prog 2=some (false,1):=by kernel_rfl
theorem Qz:dX Tryz.prog 3=some (false,1):=by kernel_rfl
theorem MX:dX Tryz.prog 4=some (false,1):=by kernel_rfl
theorem Cu:dX Tryz.prog 5=some (false,1):=by kernel_rfl
theorem TP:dX Tryz.prog 9=some (false,1):=by kernel_rfl
theorem Nw:dX Tryz.prog 22=some (false,1):=by kernel_rfl
theorem NG:dX Tryz.prog 23=some (false,1):=by kernel_rfl
theorem Rk:dX Tryz.prog 24=some (false,1):=by kernel_rfl
theorem Xy:dX Tryz.prog 26=some (true,5):=by kernel_rfl
theorem CH:dX Tryz.prog 27=some (false,1):=by kernel_rfl
theorem HB:dX Tryz.prog 45=some (true,2):=by kernel_rfl
theorem Fm:dX Tryz.prog 49=some (true,5):=by kernel_rfl
theorem NQ:dX Tryz.prog 55=some (false,1):=by kernel_rfl
theorem DN:dX Tryz.prog 56=some (false,1):=by kernel_rfl
theorem FB:dX Tryz.prog 58=some (true,5):=by kernel_rfl
theorem IY:dX Tryz.prog 63=some (true,6):=by kernel_rfl
theorem Ee:dX Tryz.prog 65=some (true,8):=by kernel_rfl
theorem Qn:dX Tryz.prog 69=some (true,10):=by kernel_rfl
theorem NK:dX Tryz.prog 77=some (true,29):=by kernel_rfl
theorem Ux:dX Tryz.prog 86=some (true,8):=by kernel_rfl
theorem Kh:dX Tryz.prog 106=some (true,9):=by kernel_rfl
theorem Ed:dX Tryz.prog 176=some (true,2):=by kernel_rfl
theorem VC:dX Tryz.prog 243=some (false,1):=by kernel_rfl
theorem ND:fieldInfo Tryz.prog 26 0=some (0,22,1):=by kernel_rfl
theorem Db:fieldInfo Tryz.prog 26 1=some (1,23,1):=by kernel_rfl
theorem HQ:fieldInfo Tryz.prog 26 2=some (2,24,1):=by kernel_rfl
theorem GJ:fieldInfo Tryz.prog 26 3=some (3,2,1):=by kernel_rfl
theorem Jv:fieldInfo Tryz.prog 26 4=some (4,3,1):=by kernel_rfl
theorem Tl:fieldInfo Tryz.prog 45 0=some (0,2,1):=by kernel_rfl
theorem Wq:fieldInfo Tryz.prog 45 1=some (1,2,1):=by kernel_rfl
theorem U6:fieldInfo Tryz.prog 49 0=some (0,9,1):=by kernel_rfl
theorem R6:fieldInfo Tryz.prog 49 1=some (1,9,1):=by kernel_rfl
theorem Hb:fieldInfo Tryz.prog 49 2=some (2,2,1):=by kernel_rfl
theorem XW:fieldInfo Tryz.prog 49 3=some (3,2,1):=by kernel_rfl
theorem Wv:fieldInfo Tryz.prog 49 4=some (4,4,1):=by kernel_rfl
theorem CI:fieldInfo Tryz.prog 58 0=some (0,55,1):=by kernel_rfl
theorem SN:fieldInfo Tryz.prog 58 1=some (1,56,1):=by kernel_rfl
theorem JD:fieldInfo Tryz.prog 58 2=some (2,4,1):=by kernel_rfl
theorem Ff:fieldInfo Tryz.prog 58 3=some (3,2,1):=by kernel_rfl
theorem EY:fieldInfo Tryz.prog 58 4=some (4,2,1):=by kernel_rfl
theorem Da:fieldInfo Tryz.prog 63 0=some (0,9,1):=by kernel_rfl
theorem MJ:fieldInfo Tryz.prog 63 1=some (1,9,1):=by kernel_rfl
theorem TG:fieldInfo Tryz.prog 63 2=some (2,2,1):=by kernel_rfl
theorem WJ:fieldInfo Tryz.prog 63 3=some (3,2,1):=by kernel_rfl
theorem Ir:fieldInfo Tryz.prog 63 4=some (4,2,1):=by kernel_rfl
theorem LG:fieldInfo Tryz.prog 63 5=some (5,2,1):=by kernel_rfl
theorem IU:fieldInfo Tryz.prog 65 0=some (0,9,1):=by kernel_rfl
theorem QV:fieldInfo Tryz.prog 65 1=some (1,9,1):=by kernel_rfl
theorem D0:fieldInfo Tryz.prog 65 2=some (2,9,1):=by kernel_rfl
theorem DB:fieldInfo Tryz.prog 65 3=some (3,4,1):=by kernel_rfl
theorem UL:fieldInfo Tryz.prog 65 4=some (4,2,1):=by kernel_rfl
theorem Ri:fieldInfo Tryz.prog 65 5=some (5,2,1):=by kernel_rfl
theorem X2:fieldInfo Tryz.prog 65 6=some (6,2,1):=by kernel_rfl
theorem QD:fieldInfo Tryz.prog 65 7=some (7,4,1):=by kernel_rfl
theorem E9:fieldInfo Tryz.prog 69 0=some (0,9,1):=by kernel_rfl
theorem C2:fieldInfo Tryz.prog 69 1=some (1,9,1):=by kernel_rfl
theorem C0:fieldInfo Tryz.prog 69 2=some (2,9,1):=by kernel_rfl
theorem UK:fieldInfo Tryz.prog 69 3=some (3,9,1):=by kernel_rfl
theorem RH:fieldInfo Tryz.prog 69 4=some (4,9,1):=by kernel_rfl
theorem CY:fieldInfo Tryz.prog 69 5=some (5,3,1):=by kernel_rfl
theorem E1:fieldInfo Tryz.prog 69 6=some (6,4,1):=by kernel_rfl
theorem Fz:fieldInfo Tryz.prog 69 7=some (7,2,1):=by kernel_rfl
theorem Wx:fieldInfo Tryz.prog 69 8=some (8,2,1):=by kernel_rfl
theorem Td:fieldInfo Tryz.prog 69 9=some (9,2,1):=by kernel_rfl
theorem Ko:fieldInfo Tryz.prog 77 0=some (0,5,1):=by kernel_rfl
theorem Fv:fieldInfo Tryz.prog 77 1=some (1,3,1):=by kernel_rfl
theorem Kl:fieldInfo Tryz.prog 77 2=some (2,65,8):=by kernel_rfl
theorem SM:fieldInfo Tryz.prog 77 3=some (10,9,1):=by kernel_rfl
theorem Vh:fieldInfo Tryz.prog 77 4=some (11,69,10):=by kernel_rfl
theorem Mk:fieldInfo Tryz.prog 77 5=some (21,5,1):=by kernel_rfl
theorem LZ:fieldInfo Tryz.prog 77 6=some (22,4,1):=by kernel_rfl
theorem RX:fieldInfo Tryz.prog 77 7=some (23,63,6):=by kernel_rfl
theorem Fj:fieldInfo Tryz.prog 86 0=some (0,26,5):=by kernel_rfl
theorem XM:fieldInfo Tryz.prog 86 1=some (5,22,1):=by kernel_rfl
theorem Wd:fieldInfo Tryz.prog 86 2=some (6,2,1):=by kernel_rfl
theorem L7:fieldInfo Tryz.prog 86 3=some (7,4,1):=by kernel_rfl
theorem Ea:fieldInfo Tryz.prog 106 0=some (0,9,1):=by kernel_rfl
theorem JW:fieldInfo Tryz.prog 106 1=some (1,9,1):=by kernel_rfl
theorem S2:fieldInfo Tryz.prog 106 2=some (2,9,1):=by kernel_rfl
theorem Ja:fieldInfo Tryz.prog 106 3=some (3,9,1):=by kernel_rfl
theorem Qi:fieldInfo Tryz.prog 106 4=some (4,4,1):=by kernel_rfl
theorem UG:fieldInfo Tryz.prog 106 5=some (5,2,1):=by kernel_rfl
theorem RR:fieldInfo Tryz.prog 106 6=some (6,2,1):=by kernel_rfl
theorem Jw:fieldInfo Tryz.prog 106 7=some (7,2,1):=by kernel_rfl
theorem NH:fieldInfo Tryz.prog 106 8=some (8,4,1):=by kernel_rfl
theorem CT:fieldInfo Tryz.prog 169 0=some (0,2,1):=by kernel_rfl
theorem Di:fieldInfo Tryz.prog 169 1=some (1,4,1):=by kernel_rfl
theorem F4:fieldInfo Tryz.prog 169 2=some (2,4,1):=by kernel_rfl
theorem LC:fieldInfo Tryz.prog 169 3=some (3,3,1):=by kernel_rfl
theorem Fh:fieldInfo Tryz.prog 176 0=some (0,9,1):=by kernel_rfl
theorem Ma:fieldInfo Tryz.prog 176 1=some (1,9,1):=by kernel_rfl
theorem D8:gy Tryz.prog 22=some (none,65,8):=by kernel_rfl
theorem CW:gy Tryz.prog 23=some (none,106,9):=by kernel_rfl
theorem Km:gy Tryz.prog 24=some (none,9,1):=by kernel_rfl
theorem UZ:gy Tryz.prog 27=some (none,49,5):=by kernel_rfl
theorem F7:gy Tryz.prog 31=some (none,27,1):=by kernel_rfl
theorem WT:gy Tryz.prog 55=some (none,86,8):=by kernel_rfl
theorem Ij:gy Tryz.prog 56=some (none,63,6):=by kernel_rfl
theorem Xl:gy Tryz.prog 73=some (none,77,29):=by kernel_rfl
theorem Fq:gy Tryz.prog 91=some (none,69,10):=by kernel_rfl
theorem Q9:gy Tryz.prog 92=some (none,4,1):=by kernel_rfl
theorem Qe:gy Tryz.prog 174=some (none,176,2):=by kernel_rfl
theorem XE:gy Tryz.prog 187=some (none,2,1):=by kernel_rfl
theorem GX:gy Tryz.prog 217=some (none,3,1):=by kernel_rfl
theorem J4:gy Tryz.prog 222=some (some 5,4,1):=by kernel_rfl
theorem o9:cV Tryz.prog 22=some (65,8,88):=by kernel_rfl
theorem yb:cV Tryz.prog 23=some (106,9,104):=by kernel_rfl
theorem EW:cV Tryz.prog 24=some (9,1,16):=by kernel_rfl
theorem xz:cV Tryz.prog 27=some (49,5,56):=by kernel_rfl
theorem Vr:cV Tryz.prog 31=some (27,1,24):=by kernel_rfl
theorem eA:cV Tryz.prog 55=some (86,8,128):=by kernel_rfl
theorem lS:cV Tryz.prog 56=some (63,6,64):=by kernel_rfl
theorem wR:cV Tryz.prog 174=some (176,2,32):=by kernel_rfl
theorem Jo:cV Tryz.prog 187=some (2,1,8):=by kernel_rfl
theorem HU:cV Tryz.prog 217=some (3,1,8):=by kernel_rfl
theorem OU:bC Tryz.prog 2=some 1:=by kernel_rfl
theorem Qx:bC Tryz.prog 3=some 1:=by kernel_rfl
theorem R5:bC Tryz.prog 4=some 1:=by kernel_rfl
theorem E7:bC Tryz.prog 9=some 1:=by kernel_rfl
theorem Rp:bC Tryz.prog 22=some 1:=by kernel_rfl
theorem Qh:bC Tryz.prog 23=some 1:=by kernel_rfl
theorem CZ:bC Tryz.prog 24=some 1:=by kernel_rfl
theorem Hs:bC Tryz.prog 26=some 5:=by kernel_rfl
theorem Et:bC Tryz.prog 27=some 1:=by kernel_rfl
theorem PE:bC Tryz.prog 45=some 2:=by kernel_rfl
theorem SZ:bC Tryz.prog 49=some 5:=by kernel_rfl
theorem OO:bC Tryz.prog 55=some 1:=by kernel_rfl
theorem EX:bC Tryz.prog 56=some 1:=by kernel_rfl
theorem WR:bC Tryz.prog 58=some 5:=by kernel_rfl
theorem PK:bC Tryz.prog 63=some 6:=by kernel_rfl
theorem O4:bC Tryz.prog 65=some 8:=by kernel_rfl
theorem HF:bC Tryz.prog 69=some 10:=by kernel_rfl
theorem JA:bC Tryz.prog 77=some 29:=by kernel_rfl
theorem P1:bC Tryz.prog 86=some 8:=by kernel_rfl
theorem HP:bC Tryz.prog 106=some 9:=by kernel_rfl
theorem E3:bC Tryz.prog 169=some 4:=by kernel_rfl
theorem H5:bC Tryz.prog 176=some 2:=by kernel_rfl
theorem RY:bC Tryz.prog 222=some 5:=by kernel_rfl
theorem SE:bC Tryz.prog 243=some 1:=by kernel_rfl
theorem u4:ek Tryz.prog 22=true:=by kernel_rfl
theorem NA:ek Tryz.prog 23=true:=by kernel_rfl
theorem Ni:ek Tryz.prog 24=true:=by kernel_rfl
theorem xW:ek Tryz.prog 27=true:=by kernel_rfl
theorem SX:ek Tryz.prog 31=true:=by kernel_rfl
theorem jl:ek Tryz.prog 55=true:=by kernel_rfl
theorem wM:ek Tryz.prog 56=true:=by kernel_rfl
theorem CP:ek Tryz.prog 174=true:=by kernel_rfl
theorem Sn:ek Tryz.prog 187=true:=by kernel_rfl
theorem IP:kb Tryz.prog 45=some [0,0]:=by kernel_rfl
theorem Wl:kb Tryz.prog 49=some [1,1,0,0,2]:=by kernel_rfl
theorem QM:kb Tryz.prog 63=some [1,1,0,0,0,0]:=by kernel_rfl
theorem Dh:kb Tryz.prog 65=some [1,1,1,2,0,0,0,2]:=by kernel_rfl
theorem Jq:kb Tryz.prog 106=some [1,1,1,1,2,0,0,0,2]:=by kernel_rfl
theorem WH:kb Tryz.prog 176=some [1,1]:=by kernel_rfl
theorem Ez:ao Tryz.prog 10=true:=by kernel_rfl
theorem IS:ao Tryz.prog 11=true:=by kernel_rfl
theorem NN:ao Tryz.prog 12=true:=by kernel_rfl
theorem HK:ao Tryz.prog 13=true:=by kernel_rfl
theorem PD:ao Tryz.prog 14=true:=by kernel_rfl
theorem Xh:ao Tryz.prog 15=true:=by kernel_rfl
theorem KP:ao Tryz.prog 16=true:=by kernel_rfl
theorem QT:ao Tryz.prog 17=true:=by kernel_rfl
theorem R8:ao Tryz.prog 18=true:=by kernel_rfl
theorem RU:ao Tryz.prog 19=true:=by kernel_rfl
theorem RZ:ao Tryz.prog 20=true:=by kernel_rfl
theorem F8:ao Tryz.prog 21=true:=by kernel_rfl
theorem DL:ao Tryz.prog 22=true:=by kernel_rfl
theorem Co:ao Tryz.prog 23=true:=by kernel_rfl
theorem CO:ao Tryz.prog 24=true:=by kernel_rfl
theorem Nz:ao Tryz.prog 25=true:=by kernel_rfl
theorem Vq:ao Tryz.prog 26=true:=by kernel_rfl
theorem Wj:ao Tryz.prog 27=true:=by kernel_rfl
theorem PU:ao Tryz.prog 28=true:=by kernel_rfl
theorem Sh:ao Tryz.prog 29=true:=by kernel_rfl
theorem Gy:ao Tryz.prog 30=true:=by kernel_rfl
theorem Tg:ao Tryz.prog 31=true:=by kernel_rfl
theorem OL:ao Tryz.prog 32=true:=by kernel_rfl
theorem Wo:ao Tryz.prog 33=true:=by kernel_rfl
theorem Wi:ao Tryz.prog 34=true:=by kernel_rfl
theorem Ml:ao Tryz.prog 35=true:=by kernel_rfl
theorem DH:ao Tryz.prog 36=true:=by kernel_rfl
theorem MM:ao Tryz.prog 37=true:=by kernel_rfl
theorem Xe:ao Tryz.prog 38=true:=by kernel_rfl
theorem Qq:ao Tryz.prog 39=true:=by kernel_rfl
theorem P2:ao Tryz.prog 40=true:=by kernel_rfl
theorem EZ:ao Tryz.prog 41=true:=by kernel_rfl
theorem Jg:ao Tryz.prog 42=true:=by kernel_rfl
theorem Ho:ao Tryz.prog 43=true:=by kernel_rfl
theorem Rl:ao Tryz.prog 44=true:=by kernel_rfl
theorem M1:ao Tryz.prog 45=true:=by kernel_rfl
theorem L0:ao Tryz.prog 46=true:=by kernel_rfl
theorem RM:ao Tryz.prog 47=true:=by kernel_rfl
theorem C3:ao Tryz.prog 48=true:=by kernel_rfl
theorem Cs:ao Tryz.prog 49=true:=by kernel_rfl
theorem Fu:ao Tryz.prog 50=true:=by kernel_rfl
theorem PH:ao Tryz.prog 51=true:=by kernel_rfl
theorem JM:ao Tryz.prog 52=true:=by kernel_rfl
theorem UH:ao Tryz.prog 53=true:=by kernel_rfl
theorem I3:ao Tryz.prog 54=true:=by kernel_rfl
theorem CB:ao Tryz.prog 55=true:=by kernel_rfl
theorem NU:ao Tryz.prog 56=true:=by kernel_rfl
theorem Vd:ao Tryz.prog 57=true:=by kernel_rfl
theorem Tj:ao Tryz.prog 58=true:=by kernel_rfl
theorem UP:ao Tryz.prog 59=true:=by kernel_rfl
theorem FA:ao Tryz.prog 60=true:=by kernel_rfl
theorem Tu:ao Tryz.prog 61=true:=by kernel_rfl
theorem WI:ao Tryz.prog 62=true:=by kernel_rfl
theorem DW:ao Tryz.prog 63=true:=by kernel_rfl
theorem KH:ao Tryz.prog 64=true:=by kernel_rfl
theorem Pp:ao Tryz.prog 65=true:=by kernel_rfl
theorem D4:ao Tryz.prog 66=true:=by kernel_rfl
theorem QO:ao Tryz.prog 67=true:=by kernel_rfl
theorem H9:ao Tryz.prog 68=true:=by kernel_rfl
theorem Mc:ao Tryz.prog 69=true:=by kernel_rfl
theorem Gb:ao Tryz.prog 70=true:=by kernel_rfl
theorem HG:ao Tryz.prog 71=true:=by kernel_rfl
theorem PI:ao Tryz.prog 72=true:=by kernel_rfl
theorem H7:ao Tryz.prog 73=true:=by kernel_rfl
theorem KT:ao Tryz.prog 74=true:=by kernel_rfl
theorem I0:ao Tryz.prog 75=true:=by kernel_rfl
theorem CM:ao Tryz.prog 76=true:=by kernel_rfl
theorem Lk:ao Tryz.prog 77=true:=by kernel_rfl
theorem Hy:ao Tryz.prog 78=true:=by kernel_rfl
theorem Je:ao Tryz.prog 79=true:=by kernel_rfl
theorem Ot:ao Tryz.prog 80=true:=by kernel_rfl
theorem O1:ao Tryz.prog 81=true:=by kernel_rfl
theorem P8:ao Tryz.prog 82=true:=by kernel_rfl
theorem Jn:ao Tryz.prog 83=true:=by kernel_rfl
theorem US:ao Tryz.prog 84=true:=by kernel_rfl
theorem HV:ao Tryz.prog 85=true:=by kernel_rfl
theorem JV:ao Tryz.prog 86=true:=by kernel_rfl
theorem Iy:ao Tryz.prog 87=true:=by kernel_rfl
theorem XK:ao Tryz.prog 88=true:=by kernel_rfl
theorem Wr:ao Tryz.prog 89=true:=by kernel_rfl
theorem Ta:ao Tryz.prog 90=true:=by kernel_rfl
theorem VX:ao Tryz.prog 91=true:=by kernel_rfl
theorem Np:ao Tryz.prog 92=true:=by kernel_rfl
theorem NO:ao Tryz.prog 93=true:=by kernel_rfl
theorem TF:ao Tryz.prog 94=true:=by kernel_rfl
theorem Dr:ao Tryz.prog 95=true:=by kernel_rfl
theorem J9:ao Tryz.prog 96=true:=by kernel_rfl
theorem IJ:ao Tryz.prog 97=true:=by kernel_rfl
theorem TH:ao Tryz.prog 98=true:=by kernel_rfl
theorem TZ:ao Tryz.prog 99=true:=by kernel_rfl
theorem KK:ao Tryz.prog 100=true:=by kernel_rfl
theorem SP:ao Tryz.prog 101=true:=by kernel_rfl
theorem Ct:ao Tryz.prog 102=true:=by kernel_rfl
theorem JC:ao Tryz.prog 103=true:=by kernel_rfl
theorem Qr:ao Tryz.prog 104=true:=by kernel_rfl
theorem Me:ao Tryz.prog 105=true:=by kernel_rfl
theorem TL:ao Tryz.prog 106=true:=by kernel_rfl
theorem Xr:ao Tryz.prog 107=true:=by kernel_rfl
theorem Sp:ao Tryz.prog 108=true:=by kernel_rfl
theorem Jc:ao Tryz.prog 109=true:=by kernel_rfl
theorem Vt:ao Tryz.prog 110=true:=by kernel_rfl
theorem Um:ao Tryz.prog 111=true:=by kernel_rfl
theorem QH:ao Tryz.prog 112=true:=by kernel_rfl
theorem Kw:ao Tryz.prog 113=true:=by kernel_rfl
theorem Cv:ao Tryz.prog 114=true:=by kernel_rfl
theorem J5:ao Tryz.prog 115=true:=by kernel_rfl
theorem Sd:ao Tryz.prog 116=true:=by kernel_rfl
theorem JQ:ao Tryz.prog 117=true:=by kernel_rfl
theorem VO:ao Tryz.prog 118=true:=by kernel_rfl
theorem F2:ao Tryz.prog 119=true:=by kernel_rfl
theorem Ph:ao Tryz.prog 120=true:=by kernel_rfl
theorem Iz:ao Tryz.prog 121=true:=by kernel_rfl
theorem FJ:ao Tryz.prog 122=true:=by kernel_rfl
theorem WB:ao Tryz.prog 123=true:=by kernel_rfl
theorem OE:ao Tryz.prog 124=true:=by kernel_rfl
theorem RB:ao Tryz.prog 125=true:=by kernel_rfl
theorem Cy:ao Tryz.prog 126=true:=by kernel_rfl
theorem QY:ao Tryz.prog 127=true:=by kernel_rfl
theorem DS:ao Tryz.prog 128=true:=by kernel_rfl
theorem EJ:ao Tryz.prog 129=true:=by kernel_rfl
theorem TI:ao Tryz.prog 131=true:=by kernel_rfl
theorem TB:ao Tryz.prog 132=true:=by kernel_rfl
theorem C8:ao Tryz.prog 133=true:=by kernel_rfl
theorem VT:ao Tryz.prog 134=true:=by kernel_rfl
theorem Cw:ao Tryz.prog 136=true:=by kernel_rfl
theorem Fo:ao Tryz.prog 137=true:=by kernel_rfl
theorem Nx:ao Tryz.prog 138=true:=by kernel_rfl
theorem Fp:ao Tryz.prog 139=true:=by kernel_rfl
theorem Kx:ao Tryz.prog 140=true:=by kernel_rfl
theorem OY:ao Tryz.prog 141=true:=by kernel_rfl
theorem U3:ao Tryz.prog 142=true:=by kernel_rfl
theorem DX:ao Tryz.prog 143=true:=by kernel_rfl
theorem FC:ao Tryz.prog 144=true:=by kernel_rfl
theorem PF:ao Tryz.prog 145=true:=by kernel_rfl
theorem Hh:ao Tryz.prog 146=true:=by kernel_rfl
theorem XG:ao Tryz.prog 147=true:=by kernel_rfl
theorem Nc:ao Tryz.prog 148=true:=by kernel_rfl
theorem D9:ao Tryz.prog 149=true:=by kernel_rfl
theorem CV:ao Tryz.prog 150=true:=by kernel_rfl
theorem Ib:ao Tryz.prog 151=true:=by kernel_rfl
theorem Wp:ao Tryz.prog 152=true:=by kernel_rfl
theorem Rn:ao Tryz.prog 153=true:=by kernel_rfl
theorem VU:ao Tryz.prog 154=true:=by kernel_rfl
theorem HL:ao Tryz.prog 155=true:=by kernel_rfl
theorem XV:ao Tryz.prog 156=true:=by kernel_rfl
theorem SF:ao Tryz.prog 157=true:=by kernel_rfl
theorem Rv:ao Tryz.prog 158=true:=by kernel_rfl
theorem Sx:ao Tryz.prog 159=true:=by kernel_rfl
theorem CQ:ao Tryz.prog 160=true:=by kernel_rfl
theorem SQ:ao Tryz.prog 161=true:=by kernel_rfl
theorem Rc:ao Tryz.prog 162=true:=by kernel_rfl
theorem ON:ao Tryz.prog 163=true:=by kernel_rfl
theorem PL:ao Tryz.prog 164=true:=by kernel_rfl
theorem IZ:ao Tryz.prog 165=true:=by kernel_rfl
theorem Tw:ao Tryz.prog 166=true:=by kernel_rfl
theorem HM:ao Tryz.prog 167=true:=by kernel_rfl
theorem W4:ao Tryz.prog 168=true:=by kernel_rfl
theorem GK:ao Tryz.prog 169=true:=by kernel_rfl
theorem UF:ao Tryz.prog 170=true:=by kernel_rfl
theorem QN:ao Tryz.prog 171=true:=by kernel_rfl
theorem Rj:ao Tryz.prog 172=true:=by kernel_rfl
theorem Kn:ao Tryz.prog 173=true:=by kernel_rfl
theorem Oi:ao Tryz.prog 174=true:=by kernel_rfl
theorem Cx:ao Tryz.prog 175=true:=by kernel_rfl
theorem Qo:ao Tryz.prog 176=true:=by kernel_rfl
theorem Ev:ao Tryz.prog 177=true:=by kernel_rfl
theorem R7:ao Tryz.prog 178=true:=by kernel_rfl
theorem GA:ao Tryz.prog 179=true:=by kernel_rfl
theorem UB:ao Tryz.prog 180=true:=by kernel_rfl
theorem MB:ao Tryz.prog 181=true:=by kernel_rfl
theorem IK:ao Tryz.prog 182=true:=by kernel_rfl
theorem Hg:ao Tryz.prog 183=true:=by kernel_rfl
theorem MA:ao Tryz.prog 184=true:=by kernel_rfl
theorem KE:ao Tryz.prog 185=true:=by kernel_rfl
theorem Lp:ao Tryz.prog 186=true:=by kernel_rfl
theorem FM:ao Tryz.prog 187=true:=by kernel_rfl
theorem OG:ao Tryz.prog 189=true:=by kernel_rfl
theorem LS:ao Tryz.prog 190=true:=by kernel_rfl
theorem TS:ao Tryz.prog 192=true:=by kernel_rfl
theorem D1:ao Tryz.prog 193=true:=by kernel_rfl
theorem MC:ao Tryz.prog 194=true:=by kernel_rfl
theorem Sw:ao Tryz.prog 195=true:=by kernel_rfl
theorem Nh:ao Tryz.prog 196=true:=by kernel_rfl
theorem M8:ao Tryz.prog 197=true:=by kernel_rfl
theorem VQ:ao Tryz.prog 198=true:=by kernel_rfl
theorem RL:ao Tryz.prog 199=true:=by kernel_rfl
theorem Ra:ao Tryz.prog 200=true:=by kernel_rfl
theorem Qg:ao Tryz.prog 201=true:=by kernel_rfl
theorem VW:ao Tryz.prog 202=true:=by kernel_rfl
theorem Ek:ao Tryz.prog 203=true:=by kernel_rfl
theorem Ve:ao Tryz.prog 204=true:=by kernel_rfl
theorem V6:ao Tryz.prog 207=true:=by kernel_rfl
theorem EM:ao Tryz.prog 208=true:=by kernel_rfl
theorem PN:ao Tryz.prog 209=true:=by kernel_rfl
theorem Mu:ao Tryz.prog 210=true:=by kernel_rfl
theorem Ub:ao Tryz.prog 211=true:=by kernel_rfl
theorem HJ:ao Tryz.prog 212=true:=by kernel_rfl
theorem OF:ao Tryz.prog 213=true:=by kernel_rfl
theorem RV:ao Tryz.prog 214=true:=by kernel_rfl
theorem El:ao Tryz.prog 215=true:=by kernel_rfl
theorem Up:ao Tryz.prog 216=true:=by kernel_rfl
theorem Ke:ao Tryz.prog 217=true:=by kernel_rfl
theorem SS:ao Tryz.prog 218=true:=by kernel_rfl
theorem JH:ao Tryz.prog 219=true:=by kernel_rfl
theorem Fi:ao Tryz.prog 220=true:=by kernel_rfl
theorem VE:ao Tryz.prog 221=true:=by kernel_rfl
theorem G0:ao Tryz.prog 222=true:=by kernel_rfl
theorem Rz:ao Tryz.prog 223=true:=by kernel_rfl
theorem W8:ao Tryz.prog 224=true:=by kernel_rfl
theorem HH:ao Tryz.prog 225=true:=by kernel_rfl
theorem ML:ao Tryz.prog 226=true:=by kernel_rfl
theorem Ug:ao Tryz.prog 227=true:=by kernel_rfl
theorem WU:ao Tryz.prog 228=true:=by kernel_rfl
theorem Lg:ao Tryz.prog 229=true:=by kernel_rfl
theorem S0:ao Tryz.prog 230=true:=by kernel_rfl
theorem Pa:ao Tryz.prog 231=true:=by kernel_rfl
theorem Sl:ao Tryz.prog 232=true:=by kernel_rfl
theorem X6:ao Tryz.prog 233=true:=by kernel_rfl
theorem Kb:ao Tryz.prog 234=true:=by kernel_rfl
theorem Ud:ao Tryz.prog 235=true:=by kernel_rfl
theorem PJ:ao Tryz.prog 236=true:=by kernel_rfl
theorem OT:ao Tryz.prog 237=true:=by kernel_rfl
theorem EP:ao Tryz.prog 238=true:=by kernel_rfl
theorem SA:ao Tryz.prog 239=true:=by kernel_rfl
theorem JI:ao Tryz.prog 240=true:=by kernel_rfl
theorem Qf:ao Tryz.prog 241=true:=by kernel_rfl
theorem C6:ao Tryz.prog 242=true:=by kernel_rfl
theorem Ps:ao Tryz.prog 243=true:=by kernel_rfl
theorem WS:ao Tryz.prog 244=true:=by kernel_rfl
theorem TU:ao Tryz.prog 245=true:=by kernel_rfl
theorem Uw:ao Tryz.prog 246=true:=by kernel_rfl
theorem Xf:ao Tryz.prog 247=true:=by kernel_rfl
theorem Qs:ao Tryz.prog 248=true:=by kernel_rfl
theorem TY:ao Tryz.prog 249=true:=by kernel_rfl
theorem Ds:ao Tryz.prog 250=true:=by kernel_rfl
theorem PW:ao Tryz.prog 251=true:=by kernel_rfl
theorem R3:ao Tryz.prog 252=true:=by kernel_rfl
theorem Sv:ao Tryz.prog 253=true:=by kernel_rfl
theorem SV:ao Tryz.prog 254=true:=by kernel_rfl
theorem J7:ao Tryz.prog 255=true:=by kernel_rfl
theorem Tb:ao Tryz.prog 256=true:=by kernel_rfl
theorem SG:ao Tryz.prog 257=true:=by kernel_rfl
theorem UM:ao Tryz.prog 258=true:=by kernel_rfl
theorem Uk:ao Tryz.prog 259=true:=by kernel_rfl
theorem IX:eu Tryz.prog 3=some [.v (.int .i64 0)]:=by kernel_rfl
theorem IE:eu Tryz.prog 26=some [.aK,.aK,.aK,.v (.int .i64 0),.v (.int .i64 0)]:=by kernel_rfl
theorem Hz:eu Tryz.prog 45=some [.v (.int .i64 0),.v (.int .i64 0)]:=by kernel_rfl
theorem OD:eu Tryz.prog 49=some [.v (.string ⟨#[]⟩),.v (.string ⟨#[]⟩),.v (.int .i64 0),.v (.int .i64 0),.v (.bool false)]:=by kernel_rfl
theorem Rr:eu Tryz.prog 58=some [.aK,.aK,.v (.bool false),.v (.int .i64 0),.v (.int .i64 0)]:=by kernel_rfl
theorem IB:eu Tryz.prog 63=some [.v (.string ⟨#[]⟩),.v (.string ⟨#[]⟩),.v (.int .i64 0),.v (.int .i64 0),.v (.int .i64 0),.v (.int .i64 0)]:=by kernel_rfl
theorem WZ:eu Tryz.prog 65=some [.v (.string ⟨#[]⟩),.v (.string ⟨#[]⟩),.v (.string ⟨#[]⟩),.v (.bool false),.v (.int .i64 0),.v (.int .i64 0),.v (.int .i64 0),.v (.bool false)]:=by kernel_rfl
theorem Qw:eu Tryz.prog 69=some [.v (.string ⟨#[]⟩),.v (.string ⟨#[]⟩),.v (.string ⟨#[]⟩),.v (.string ⟨#[]⟩),.v (.string ⟨#[]⟩),.v (.int .i64 0),.v (.bool false),.v (.int .i64 0),.v (.int .i64 0),.v (.int .i64 0)]:=by kernel_rfl
theorem A8:eu Tryz.prog 86=some [.aK,.aK,.aK,.v (.int .i64 0),.v (.int .i64 0),.aK,.v (.int .i64 0),.v (.bool false)]:=by kernel_rfl
theorem Xp:eu Tryz.prog 106=some [.v (.string ⟨#[]⟩),.v (.string ⟨#[]⟩),.v (.string ⟨#[]⟩),.v (.string ⟨#[]⟩),.v (.bool false),.v (.int .i64 0),.v (.int .i64 0),.v (.int .i64 0),.v (.bool false)]:=by kernel_rfl
theorem RG:eu Tryz.prog 169=some [.v (.int .i64 0),.v (.bool false),.v (.bool false),.v (.int .i64 0)]:=by kernel_rfl
theorem Si:eu Tryz.prog 176=some [.v (.string ⟨#[]⟩),.v (.string ⟨#[]⟩)]:=by kernel_rfl
theorem Gr:eu Tryz.prog 222=some [.v (.bool false),.v (.bool false),.v (.bool false),.v (.bool false),.v (.bool false)]:=by kernel_rfl
theorem Jf:eu Tryz.prog 243=some [.v (.int .u64 0)]:=by kernel_rfl
theorem OX:jg Tryz.prog 26=some [(0,1),(1,1),(2,1),(3,1),(4,1)]:=by kernel_rfl
theorem Mr:jg Tryz.prog 45=some [(0,1),(1,1)]:=by kernel_rfl
theorem He:jg Tryz.prog 49=some [(0,1),(1,1),(2,1),(3,1),(4,1)]:=by kernel_rfl
theorem Jy:jg Tryz.prog 58=some [(0,1),(1,1),(2,1),(3,1),(4,1)]:=by kernel_rfl
theorem Mq:jg Tryz.prog 63=some [(0,1),(1,1),(2,1),(3,1),(4,1),(5,1)]:=by kernel_rfl
theorem VI:jg Tryz.prog 65=some [(0,1),(1,1),(2,1),(3,1),(4,1),(5,1),(6,1),(7,1)]:=by kernel_rfl
theorem W5:jg Tryz.prog 69=some [(0,1),(1,1),(2,1),(3,1),(4,1),(5,1),(6,1),(7,1),(8,1),(9,1)]:=by kernel_rfl
theorem Mx:jg Tryz.prog 106=some [(0,1),(1,1),(2,1),(3,1),(4,1),(5,1),(6,1),(7,1),(8,1)]:=by kernel_rfl
theorem Mw:jg Tryz.prog 169=some [(0,1),(1,1),(2,1),(3,1)]:=by kernel_rfl
theorem J6:jg Tryz.prog 176=some [(0,1),(1,1)]:=by kernel_rfl
theorem JO:Tryz.prog.underlying 2=some (.int (Go.IntKind.i64)):=by kernel_rfl
theorem Xc:Tryz.prog.underlying 3=some (.int (Go.IntKind.i64)):=by kernel_rfl
theorem GH:Tryz.prog.underlying 4=some (.bool):=by kernel_rfl
theorem PS:Tryz.prog.underlying 5=some (.int (Go.IntKind.u8)):=by kernel_rfl
theorem Mm:Tryz.prog.underlying 9=some (.string):=by kernel_rfl
theorem V5:Tryz.prog.underlying 22=some (.slice 65):=by kernel_rfl
theorem Vm:Tryz.prog.underlying 23=some (.slice 106):=by kernel_rfl
theorem Oo:Tryz.prog.underlying 24=some (.slice 9):=by kernel_rfl
theorem VG:Tryz.prog.underlying 27=some (.slice 49):=by kernel_rfl
theorem Sg:Tryz.prog.underlying 31=some (.slice 27):=by kernel_rfl
theorem P5:Tryz.prog.underlying 32=some (.int (Go.IntKind.i64)):=by kernel_rfl
theorem Wz:Tryz.prog.underlying 53=some (.int (Go.IntKind.u32)):=by kernel_rfl
theorem FK:Tryz.prog.underlying 54=some (.int (Go.IntKind.u16)):=by kernel_rfl
theorem Em:Tryz.prog.underlying 55=some (.slice 86):=by kernel_rfl
theorem DT:Tryz.prog.underlying 56=some (.slice 63):=by kernel_rfl
theorem IV:Tryz.prog.underlying 73=some (.slice 77):=by kernel_rfl
theorem Jr:Tryz.prog.underlying 91=some (.slice 69):=by kernel_rfl
theorem Gg:Tryz.prog.underlying 92=some (.slice 4):=by kernel_rfl
theorem IA:Tryz.prog.underlying 174=some (.slice 176):=by kernel_rfl
theorem DQ:Tryz.prog.underlying 187=some (.slice 2):=by kernel_rfl
theorem EE:Tryz.prog.underlying 201=some (.int (Go.IntKind.u64)):=by kernel_rfl
theorem F6:Tryz.prog.underlying 205=some (.int (Go.IntKind.u64)):=by kernel_rfl
theorem XO:Tryz.prog.underlying 217=some (.slice 3):=by kernel_rfl
theorem Ns:Tryz.prog.underlying 222=some (.array 5 4):=by kernel_rfl
theorem Tp:Tryz.prog.underlying 225=some (.int (Go.IntKind.i64)):=by kernel_rfl
theorem CC:Tryz.prog.underlying 243=some (.int (Go.IntKind.u64)):=by kernel_rfl
attribute [go_sem] P7 Qz MX Cu TP Nw NG Rk Xy CH HB Fm NQ DN FB IY Ee Qn NK Ux Kh Ed VC ND Db HQ GJ Jv Tl Wq U6 R6 Hb XW Wv CI SN JD Ff EY Da MJ TG WJ Ir LG IU QV D0 DB UL Ri X2 QD E9 C2 C0 UK RH CY E1 Fz Wx Td Ko Fv Kl SM Vh Mk LZ RX Fj XM Wd L7 Ea JW S2 Ja Qi UG RR Jw NH CT Di F4 LC Fh Ma D8 CW Km UZ F7 WT Ij Xl Fq Q9 Qe XE GX J4 o9 yb EW xz Vr eA lS wR Jo HU OU Qx R5 E7 Rp Qh CZ Hs Et PE SZ OO EX WR PK O4 HF JA P1 HP E3 H5 RY SE u4 NA Ni xW SX jl wM CP Sn IP Wl QM Dh Jq WH Ez IS NN HK PD Xh KP QT R8 RU RZ F8 DL Co CO Nz Vq Wj PU Sh Gy Tg OL Wo Wi Ml DH MM Xe Qq P2 EZ Jg Ho Rl M1 L0 RM C3 Cs Fu PH JM UH I3 CB NU Vd Tj UP FA Tu WI DW KH Pp D4 QO H9 Mc Gb HG PI H7 KT I0 CM Lk Hy Je Ot O1 P8 Jn US HV JV Iy XK Wr Ta VX Np NO TF Dr J9 IJ TH TZ KK SP Ct JC Qr Me TL Xr Sp Jc Vt Um QH Kw Cv J5 Sd JQ VO F2 Ph Iz FJ WB OE RB Cy QY DS EJ TI TB C8 VT Cw Fo Nx Fp Kx OY U3 DX FC PF Hh XG Nc D9 CV Ib Wp Rn VU HL XV SF Rv Sx CQ SQ Rc ON PL IZ Tw HM W4 GK UF QN Rj Kn Oi Cx Qo Ev R7 GA UB MB IK Hg MA KE Lp FM OG LS TS D1 MC Sw Nh M8 VQ RL Ra Qg VW Ek Ve V6 EM PN Mu Ub HJ OF RV El Up Ke SS JH Fi VE G0 Rz W8 HH ML Ug WU Lg S0 Pa Sl X6 Kb Ud PJ OT EP SA JI Qf C6 Ps WS TU Uw Xf Qs TY Ds PW R3 Sv SV J7 Tb SG UM Uk IX IE Hz OD Rr IB WZ Qw A8 Xp RG Si Gr Jf OX Mr He Jy Mq VI W5 Mx Mw J6 JO Xc GH PS Mm V5 Vm Oo VG Sg P5 Wz FK Em DT IV Jr Gg IA DQ EE F6 XO Ns Tp CC
end Go.Proofs.YtajeeghgiilhiaaGreat
end
section
namespace Go.Proofs.YtajeeghgiilhiaaGreat
open Go Go.Abs Go.RowKit Go.Bk
noncomputable def E:Env:={ P:=Tryz.prog,ok:=fun _=>True,mono:=fun _ _ _ h=>h,gl:=fun _=>none }
noncomputable def ED:Env:={ P:=Tryz.prog,ok:=fun _=>True,mono:=fun _ _ _ h=>h,gl:=fun _=>none,dr:=True }
@[go_sem] theorem YD:ED.P=Tryz.prog:=rfl
@[go_sem] theorem Zf:ED.gl=fun _=>none:=rfl
@[go_sem] theorem Zk:E.P=Tryz.prog:=rfl
@[go_sem] theorem YA:E.gl=fun _=>none:=rfl
abbrev aW(o:Od):AV:= .agg [str o.id,str o.acc,str o.sym,bl o.au,i64 o.al,i64 o.aw,i64 o.done,bl o.bg]
abbrev an(x:Ex):AV:= .agg [str x.id,str x.ref,str x.ord,str x.acc,str x.sym,i64 x.kind,bl x.au,i64 x.al,i64 x.aw,i64 x.time]
abbrev bQ(f:Dn):AV:= .agg [str f.id,str f.ord,str f.acc,str f.sym,bl f.au,i64 f.al,i64 f.aw,i64 f.time,bl f.live]
abbrev aR(l:List Od):AV:= .sl none 8 (l.map aW)
abbrev bZ(l:List Dn):AV:= .sl none 9 (l.map bQ)
theorem y4(s:Bs):∀x∈(AV.agg [str s]).leaves,x.dL=some x:=by
 intro x hx
 simp only[AV.leaves,List.mem_cons,List.not_mem_nil,or_false] at hx
 subst hx;rfl
theorem ij(l:List Od):∀e∈l.map aW,∀x∈e.leaves,x.dL=some x:=by
 intro e he x hx
 obtain⟨o,_,rfl⟩:=List.mem_map.1 he
 simp only[AV.leaves,List.mem_cons,List.not_mem_nil,or_false] at hx
 rcases hx with rfl|rfl|rfl|rfl|rfl|rfl|rfl|rfl<;>rfl
theorem pH(l:List Dn):∀e∈l.map bQ,∀x∈e.leaves,x.dL=some x:=by
 intro e he x hx
 obtain⟨o,_,rfl⟩:=List.mem_map.1 he
 simp only[AV.leaves,List.mem_cons,List.not_mem_nil,or_false] at hx
 rcases hx with rfl|rfl|rfl|rfl|rfl|rfl|rfl|rfl|rfl<;>rfl
theorem U9(x:Ex):∀y∈(an x).leaves,y.dL=some y:=by
 intro y hx
 simp only[AV.leaves,List.mem_cons,List.not_mem_nil,or_false] at hx
 rcases hx with rfl|rfl|rfl|rfl|rfl|rfl|rfl|rfl|rfl|rfl<;>rfl
theorem qG(l:List Od):∀e∈l.map aW,e.leaves.length=8∧∀y∈e.leaves,∃z,y= .v z:=by
 intro e he
 obtain⟨o,_,rfl⟩:=List.mem_map.1 he
 refine⟨rfl,fun x hx=>?_⟩
 simp only[AV.leaves,List.mem_cons,List.not_mem_nil,or_false] at hx
 rcases hx with rfl|rfl|rfl|rfl|rfl|rfl|rfl|rfl<;>exact⟨_,rfl⟩
theorem pL{l:List Od}{n:Nat}{o:Od}(h:l[n]?=some o)(sp:List AV):(l.map aW++sp)[n]?=some (aW o):=by
 have hn:n<l.length:=by
  rcases Nat.lt_or_ge n l.length with h'|h'
  ·exact h'
  ·rw[List.getElem?_eq_none h'] at h;simp at h
 rw[List.getElem?_append_left (by simpa using hn),List.getElem?_map,h];rfl
theorem qY{l:List Od}{n:Nat}{o o':Od}(h:l[n]?=some o)(sp:List AV):(l.map aW++sp).set n (aW o')=(l.set n o').map aW++sp:=by
 have hn:n<l.length:=by
  rcases Nat.lt_or_ge n l.length with h'|h'
  ·exact h'
  ·rw[List.getElem?_eq_none h'] at h;simp at h
 rw[List.set_append_left _ _ (by simpa using hn),List.map_set]
theorem PZ{o:Od}(h1:bn o=true)(h2:o.bg=true):IntKind.i64.wrap (o.al-o.done)=db o:=by
 have h:=h1
 simp only[bn,bJ,Bool.and_eq_true,decide_eq_true_eq] at h
 rw[aq (by omega) (by omega)]
 simp[db,h1,h2]
theorem FU(n:Int):ae E 171 [i64 n] (fun r t=>r=bl (bJ n)∧t=[]):=by
 refine ae.av (n:=9) (rs:=[.tmp 2]) Tryz.func171 rfl Tryz.ntmps171 rfl ?_
 refine aa.ab fun K1 hK1=>?_
 refine aa.region ?_
 simp only[go_sem]
 refine hK1 _ ?_;clear hK1 K1
 refine aa.ab fun K2 hK2=>?_
 refine aa.region ?_
 simp only[go_sem]
 repeat'((refine aH.split (fun h=>?_) (fun h=>?_)<;>simp only[h,go_sem]<;>try simp only[dD] at h))
 all_goals(
  refine hK2 _ ?_;clear hK2 K2
  refine aa.ret ?_
  try simp only[go_sem]
  exact⟨[],.v _,rfl,rfl,by simp_all[bJ]<;>omega,rfl⟩)
theorem W6(n:Int):ae E 172 [i64 n] (fun r t=>r=bl (lv n)∧t=[]):=by
 refine ae.av (n:=9) (rs:=[.tmp 2]) Tryz.func172 rfl Tryz.ntmps172 rfl ?_
 refine aa.ab fun K1 hK1=>?_
 refine aa.region ?_
 simp only[go_sem]
 refine hK1 _ ?_;clear hK1 K1
 refine aa.ab fun K2 hK2=>?_
 refine aa.region ?_
 simp only[go_sem]
 repeat'((refine aH.split (fun h=>?_) (fun h=>?_)<;>simp only[h,go_sem]<;>try simp only[dD] at h))
 all_goals(
  refine hK2 _ ?_;clear hK2 K2
  refine aa.ret ?_
  try simp only[go_sem]
  exact⟨[],.v _,rfl,rfl,by simp_all[lv]<;>omega,rfl⟩)
theorem Ky(s:Bs):ae E 150 [str s] (fun r t=>r=bl (gK s)∧t=[]):=by
 refine ae.av (n:=10) (rs:=[.tmp 2]) Tryz.func150 rfl Tryz.ntmps150 rfl ?_
 refine aa.ab fun K1 hK1=>?_
 refine aa.region ?_
 simp only[go_sem]
 refine hK1 _ ?_;clear hK1 K1
 refine aa.ab fun K2 hK2=>?_
 refine aa.region ?_
 simp only[go_sem]
 repeat'((refine aH.bY (fun h=>?_) (fun h=>?_)<;>simp only[h,go_sem]<;>try simp only[dD] at h))
 all_goals(
  refine hK2 _ ?_;clear hK2 K2
  refine aa.ret ?_
  try simp only[go_sem]
  exact⟨[],.v _,rfl,rfl,by simp_all[gK]<;>omega,rfl⟩)
theorem y6(n:Int):ae E 151 [i64 n] (fun r t=>r=bl (bJ n)∧t=[]):=by
 refine ae.av (n:=9) (rs:=[.tmp 2]) Tryz.func151 rfl Tryz.ntmps151 rfl ?_
 refine aa.ab fun K1 hK1=>?_
 refine aa.region ?_
 simp only[go_sem]
 refine hK1 _ ?_;clear hK1 K1
 refine aa.ab fun K2 hK2=>?_
 refine aa.region ?_
 simp only[go_sem]
 repeat'((refine aH.split (fun h=>?_) (fun h=>?_)<;>simp only[h,go_sem]<;>try simp only[dD] at h))
 all_goals(
  refine hK2 _ ?_;clear hK2 K2
  refine aa.ret ?_
  try simp only[go_sem]
  exact⟨[],.v _,rfl,rfl,by simp_all[bJ]<;>omega,rfl⟩)
theorem uT(n:Int):ae E 101 [i64 n] (fun r t=>r=bl (bJ n)∧t=[]):=by
 refine ae.av (n:=9) (rs:=[.tmp 2]) Tryz.func101 rfl Tryz.ntmps101 rfl ?_
 refine aa.ab fun K1 hK1=>?_
 refine aa.region ?_
 simp only[go_sem]
 refine hK1 _ ?_;clear hK1 K1
 refine aa.ab fun K2 hK2=>?_
 refine aa.region ?_
 simp only[go_sem]
 repeat'((refine aH.split (fun h=>?_) (fun h=>?_)<;>simp only[h,go_sem]<;>try simp only[dD] at h))
 all_goals(
  refine hK2 _ ?_;clear hK2 K2
  refine aa.ret ?_
  try simp only[go_sem]
  exact⟨[],.v _,rfl,rfl,by simp_all[bJ]<;>omega,rfl⟩)
theorem SY(s:Bs):ae E 170 [str s] (fun r t=>r=bl (fy s)∧t=[]):=by
 refine ae.av (n:=45) (rs:=[.tmp 2]) Tryz.func170 rfl Tryz.ntmps170 rfl ?_
 refine aa.ab fun K1 hK1=>?_
 refine aa.region ?_
 simp only[go_sem]
 refine hK1 _ ?_;clear hK1 K1
 refine aa.ab fun K2 hK2=>?_
 refine aa.ab fun K3 hK3=>?_
 refine aa.region ?_
 simp only[go_sem]
 repeat'((refine aH.bY (fun h=>?_) (fun h=>?_)<;>simp only[h,go_sem]<;>try simp only[dD] at h))
 all_goals(
  refine hK3 _ ?_;clear hK3 K3
  refine aa.cond rfl (fun c12=>?_) (fun c12=>?_)
  ·(
    try simp only[dD] at c12
    refine aa.ab fun K4 hK4=>?_
    refine aa.region ?_
    simp only[go_sem]
    refine hK4 _ ?_;clear hK4 K4
    refine aa.ret ?_
    try simp only[go_sem]
    clear hK2 K2
    (exact⟨[],.v _,rfl,rfl,congrArg bl (wA (by omega)).symm,rfl⟩))
  ·first|exact Bool.noConfusion c12|(
    try simp only[dD] at c12
    refine aa.skip ?_
    refine hK2 _ ?_;clear hK2 K2
    refine aa.ab fun K5 hK5=>?_
    refine aa.ab fun K6 hK6=>?_
    refine aa.region ?_
    simp only[go_sem]
    refine hK6 _ ?_;clear hK6 K6
    refine aa.block ?_
    refine aa.nI (ι:=Nat) [2,3,4,16,17,18,19,20,21,22,23,24,25,26,27,28,29,30,31,32,33,34,35,36,37,38,39,40,41,42,43,44] (fun(i:Nat)=>[(15,i64 i)]) (fun(i:Nat)=>i≤s.length∧s.length≤16∧(s.take i).all isName=true) (fun(i:Nat)=>s.length-i) (0) ?_ ?_ ?_
    ·(try simp only[go_sem]);try(simp;done)
    ·exact⟨by omega,by omega,by simp⟩
    rintro i ⟨h1,h2,h3⟩
    simp only[go_sem]
    refine aa.ab fun K7 hK7=>?_
    refine aa.region ?_
    simp only[go_sem]
    refine hK7 _ ?_;clear hK7 K7
    refine aa.ab fun K8 hK8=>?_
    refine aa.cond rfl (fun c16=>?_) (fun c16=>?_)
    ·(
      try simp only[dD] at c16
      refine aa.skip ?_
      refine hK8 _ ?_;clear hK8 K8
      refine aa.ab fun K9 hK9=>?_
      refine aa.block ?_
      refine aa.ab fun K10 hK10=>?_
      refine aa.region ?_
      simp only[go_sem]
      refine hK10 _ ?_;clear hK10 K10
      refine aa.ab fun K11 hK11=>?_
      refine aa.region ?_
      simp only[go_sem]
      repeat'(((refine aG.mN ?_ (fun b hb=>?_));(focus((omega)));(try simp only[hb,go_sem])))
      refine hK11 _ ?_;clear hK11 K11
      refine aa.ab fun K12 hK12=>?_
      refine aa.region ?_
      simp only[go_sem]
      repeat'(first|(refine aH.bY (fun h=>?_) (fun h=>?_)<;>simp only[h,go_sem]<;>try simp only[dD] at h)|(refine aH.split (fun h=>?_) (fun h=>?_)<;>simp only[h,go_sem]<;>try simp only[dD] at h))
      all_goals(
       refine hK12 _ ?_;clear hK12 K12
       refine aa.cond rfl (fun c43=>?_) (fun c43=>?_)
       ·first|exact Bool.noConfusion c43|(
         try simp only[dD] at c43
         refine aa.ab fun K13 hK13=>?_
         refine aa.region ?_
         simp only[go_sem]
         refine hK13 _ ?_;clear hK13 K13
         refine aa.ret ?_
         try simp only[go_sem]
         clear hK9 K9 hK5 K5
         first
         |exact⟨[],.v _,rfl,rfl,congrArg bl (wA (by omega)).symm,rfl⟩
         |exact⟨[],.v _,rfl,rfl,congrArg bl (yw hb (by simp only[isName];simp;omega)).symm,rfl⟩)
       ·first|exact Bool.noConfusion c43|(
         try simp only[dD] at c43
         refine aa.skip ?_
         refine hK9 _ ?_;clear hK9 K9
         refine aa.region ?_
         simp only[go_sem]
         clear hK5 K5
         refine⟨i+1,?_,?_,?_⟩
         ·(try simp only[go_sem]);(try rw[aq (by omega) (by omega)]);simp
         ·exact⟨by omega,by omega,lj hb h3 (by simp only[isName];simp;omega)⟩
         ·omega)))
    ·(
      try simp only[dD] at c16
      refine aa.exit ?_
      simp only[go_sem]
      clear hK8 K8
      refine hK5 _ ?_;clear hK5 K5
      refine aa.ab fun K14 hK14=>?_
      refine aa.region ?_
      simp only[go_sem]
      refine hK14 _ ?_;clear hK14 K14
      refine aa.ret ?_
      try simp only[go_sem]
      (exact⟨[],.v _,rfl,rfl,congrArg bl (Mi (by omega) (by omega) h3).symm,rfl⟩))))
theorem lY(o:Od):ae E 79 [aW o] (fun r t=>r=bl (bn o)∧t=[]):=by
 refine ae.av (n:=38) (rs:=[.tmp 2]) Tryz.func79 rfl Tryz.ntmps79 rfl ?_
 refine aa.ab fun K1 hK1=>?_
 refine aa.region ?_
 simp only[go_sem]
 refine hK1 _ ?_;clear hK1 K1
 refine aa.ab fun K2 hK2=>?_
 refine aa.region ?_
 simp only[go_sem]
 repeat'(first|(refine ah.one (Ky _) (by kernel_rfl) rfl ?_;simp only[go_sem])|(refine ah.one (y6 _) (by kernel_rfl) rfl ?_;simp only[go_sem])|(refine aH.split (fun h=>?_) (fun h=>?_)<;>simp only[h,go_sem]<;>try simp only[dD] at h))
 all_goals(
  refine hK2 _ ?_;clear hK2 K2
  refine aa.ret ?_
  try simp only[go_sem]
  exact⟨[],.v _,rfl,rfl,by(simp_all[bn]<;>(intros;omega)),rfl⟩)
theorem zk(o:Od):ae E 111 [aW o] (fun r t=>r=i64 (db o)∧t=[]):=by
 refine ae.av (n:=16) (rs:=[.tmp 2]) Tryz.func111 rfl Tryz.ntmps111 rfl ?_
 refine aa.ab fun K1 hK1=>?_
 refine aa.region ?_
 simp only[go_sem]
 refine hK1 _ ?_;clear hK1 K1
 refine aa.ab fun K2 hK2=>?_
 refine aa.ab fun K3 hK3=>?_
 refine aa.region ?_
 simp only[go_sem]
 repeat'(first|(refine ah.one (lY _) (by kernel_rfl) rfl ?_;simp only[go_sem])|(refine aH.split (fun h=>?_) (fun h=>?_)<;>simp only[h,go_sem]<;>try simp only[dD] at h))
 all_goals(
  refine hK3 _ ?_;clear hK3 K3
  refine aa.cond rfl (fun c10=>?_) (fun c10=>?_)
  ·(
    try simp only[dD] at c10
    refine aa.ab fun K4 hK4=>?_
    refine aa.region ?_
    simp only[go_sem]
    refine hK4 _ ?_;clear hK4 K4
    refine aa.ret ?_
    try simp only[go_sem]
    clear hK2 K2
    exact⟨[],.v _,rfl,rfl,by((simp_all[db];done)),rfl⟩)
  ·first|exact Bool.noConfusion c10|(
    try simp only[dD] at c10
    refine aa.skip ?_
    refine hK2 _ ?_;clear hK2 K2
    refine aa.ab fun K5 hK5=>?_
    refine aa.region ?_
    simp only[go_sem]
    refine hK5 _ ?_;clear hK5 K5
    refine aa.ret ?_
    try simp only[go_sem]
    exact⟨[],.v _,rfl,rfl,by((rw[PZ (by assumption) (by assumption)])),rfl⟩))
theorem OP(o:Od)(p:Int):ae E 255 [aW o,i64 p] (fun r t=>r=bl (er o p)∧t=[]):=by
 refine ae.av (n:=18) (rs:=[.tmp 4]) Tryz.func255 rfl Tryz.ntmps255 rfl ?_
 refine aa.ab fun K1 hK1=>?_
 refine aa.region ?_
 simp only[go_sem]
 refine hK1 _ ?_;clear hK1 K1
 refine aa.ab fun K2 hK2=>?_
 refine aa.ab fun K3 hK3=>?_
 refine aa.region ?_
 simp only[go_sem]
 repeat'((refine ah.one (y6 _) (by kernel_rfl) rfl ?_;simp only[go_sem]))
 refine hK3 _ ?_;clear hK3 K3
 refine aa.cond rfl (fun c7=>?_) (fun c7=>?_)
 ·(
   try simp only[dD] at c7
   refine aa.ab fun K4 hK4=>?_
   refine aa.region ?_
   simp only[go_sem]
   refine hK4 _ ?_;clear hK4 K4
   refine aa.ret ?_
   try simp only[go_sem]
   clear hK2 K2
   exact⟨[],.v _,rfl,rfl,by simp_all[er],rfl⟩)
 ·(
   try simp only[dD] at c7
   refine aa.skip ?_
   refine hK2 _ ?_;clear hK2 K2
   refine aa.ab fun K5 hK5=>?_
   refine aa.ab fun K6 hK6=>?_
   refine aa.region ?_
   simp only[go_sem]
   refine hK6 _ ?_;clear hK6 K6
   refine aa.cond rfl (fun c9=>?_) (fun c9=>?_)
   ·(
     try simp only[dD] at c9
     refine aa.ab fun K7 hK7=>?_
     refine aa.region ?_
     simp only[go_sem]
     refine hK7 _ ?_;clear hK7 K7
     refine aa.ret ?_
     try simp only[go_sem]
     clear hK5 K5
     exact⟨[],.v _,rfl,rfl,by simp_all[er],rfl⟩)
   ·(
     try simp only[dD] at c9
     refine aa.skip ?_
     refine hK5 _ ?_;clear hK5 K5
     refine aa.ab fun K8 hK8=>?_
     refine aa.region ?_
     simp only[go_sem]
     refine hK8 _ ?_;clear hK8 K8
     refine aa.ret ?_
     try simp only[go_sem]
     exact⟨[],.v _,rfl,rfl,by simp_all[er],rfl⟩))
theorem WL(o:Od)(b:Bool)(p:Int):ae E 235 [aW o,bl b,i64 p] (fun r t=>r=bl (er { o with au:=b } p)∧t=[]):=by
 refine ae.av (n:=24) (rs:=[.tmp 6]) Tryz.func235 rfl Tryz.ntmps235 rfl ?_
 refine aa.ab fun K1 hK1=>?_
 refine aa.region ?_
 simp only[go_sem]
 refine hK1 _ ?_;clear hK1 K1
 refine aa.ab fun K2 hK2=>?_
 refine aa.ab fun K3 hK3=>?_
 refine aa.region ?_
 simp only[go_sem]
 refine hK3 _ ?_;clear hK3 K3
 refine aa.cond rfl (fun c7=>?_) (fun c7=>?_)
 ·(
   try simp only[dD] at c7
   refine aa.ab fun K4 hK4=>?_
   refine aa.region ?_
   simp only[go_sem]
   repeat'(first|(refine ah.one (uT _) (by kernel_rfl) rfl ?_;simp only[go_sem])|(refine aH.split (fun h=>?_) (fun h=>?_)<;>simp only[h,go_sem]<;>try simp only[dD] at h))
   all_goals(
    refine hK4 _ ?_;clear hK4 K4
    refine aa.ret ?_
    try simp only[go_sem]
    clear hK2 K2
    exact⟨[],.v _,rfl,rfl,by simp_all[er],rfl⟩))
 ·(
   try simp only[dD] at c7
   refine aa.skip ?_
   refine hK2 _ ?_;clear hK2 K2
   refine aa.ab fun K5 hK5=>?_
   refine aa.region ?_
   simp only[go_sem]
   repeat'(first|(refine ah.one (uT _) (by kernel_rfl) rfl ?_;simp only[go_sem])|(refine aH.split (fun h=>?_) (fun h=>?_)<;>simp only[h,go_sem]<;>try simp only[dD] at h))
   all_goals(
    refine hK5 _ ?_;clear hK5 K5
    refine aa.ret ?_
    try simp only[go_sem]
    exact⟨[],.v _,rfl,rfl,by simp_all[er],rfl⟩))
theorem NB(o:Od)(id:Bs):ae E 195 [aW o,.bR [str id]] (fun r t=>r=bl (decide (o.id=id))∧t=[]):=by
 refine ae.av (n:=8) (rs:=[.tmp 3]) Tryz.func195 rfl Tryz.ntmps195 rfl ?_
 refine aa.ab fun K1 hK1=>?_
 refine aa.region ?_
 simp only[go_sem]
 refine hK1 _ ?_;clear hK1 K1
 refine aa.ab fun K2 hK2=>?_
 refine aa.region ?_
 simp only[go_sem]
 refine hK2 _ ?_;clear hK2 K2
 refine aa.ret ?_
 try simp only[go_sem]
 exact⟨[],.v _,rfl,rfl,by simp_all,rfl⟩
theorem Re(l:List Od)(id:Bs)(hl:l.length≤9223372036854775807):ae E 154 [aR l,.fn 195 [.bR [str id]]] (fun r t=>r=i64 (bN l id)∧t=[]):=by
 refine ae.av (n:=19) (rs:=[.tmp 4]) Tryz.func154 rfl Tryz.ntmps154 rfl ?_
 refine aa.ab fun K1 hK1=>?_
 refine aa.region ?_
 simp only[go_sem]
 refine hK1 _ ?_;clear hK1 K1
 refine aa.ab fun K2 hK2=>?_
 refine aa.ab fun K3 hK3=>?_
 refine aa.region ?_
 simp only[go_sem]
 repeat'(((with_reducible refine And.intro ?_ ?_);(focus(((simp;done))));(try simp only[hb,go_sem])))
 refine hK3 _ ?_;clear hK3 K3
 refine aa.block ?_
 refine aa.nI (ι:=Nat) [4,5,9,10,11,12,13,14,15,16,17,18] (fun(i:Nat)=>[(8,i64 i)]) (fun(i:Nat)=>i≤l.length∧(l.take i).all (fun o=>!decide (o.id=id))=true) (fun(i:Nat)=>l.length-i) (0) ?_ ?_ ?_
 ·(try simp only[go_sem]);try(simp;done)
 ·exact⟨by omega,by simp⟩
 rintro i ⟨h1,h2⟩
 simp only[go_sem]
 refine aa.ab fun K4 hK4=>?_
 refine aa.region ?_
 simp only[go_sem]
 refine hK4 _ ?_;clear hK4 K4
 refine aa.ab fun K5 hK5=>?_
 refine aa.cond rfl (fun c9=>?_) (fun c9=>?_)
 ·(
   try simp only[dD] at c9
   refine aa.skip ?_
   refine hK5 _ ?_;clear hK5 K5
   refine aa.ab fun K6 hK6=>?_
   refine aa.block ?_
   refine aa.ab fun K7 hK7=>?_
   refine aa.region ?_
   simp only[go_sem]
   refine hK7 _ ?_;clear hK7 K7
   refine aa.ab fun K8 hK8=>?_
   refine aa.region ?_
   simp only[go_sem]
   repeat'(first|(refine ah.one (NB _ _) (by kernel_rfl) rfl ?_;simp only[go_sem])|((refine aG.nth ?_ (fun b hb=>?_));(focus((omega)));(try simp only[hb,go_sem])))
   refine hK8 _ ?_;clear hK8 K8
   refine aa.cond rfl (fun c16=>?_) (fun c16=>?_)
   ·(
     try simp only[dD] at c16
     refine aa.ab fun K9 hK9=>?_
     refine aa.region ?_
     simp only[go_sem]
     refine hK9 _ ?_;clear hK9 K9
     refine aa.ret ?_
     try simp only[go_sem]
     clear hK6 K6 hK2 K2
     (exact⟨[],.v _,rfl,rfl,by rw[Nk hb (by assumption) h2],rfl⟩))
   ·(
     try simp only[dD] at c16
     refine aa.skip ?_
     refine hK6 _ ?_;clear hK6 K6
     refine aa.region ?_
     simp only[go_sem]
     clear hK2 K2
     refine⟨i+1,?_,?_,?_⟩
     ·(try simp only[go_sem]);(try rw[aq (by omega) (by omega)]);simp
     ·exact⟨by omega,lj hb h2 (by simp;assumption)⟩
     ·omega))
 ·(
   try simp only[dD] at c9
   refine aa.exit ?_
   simp only[go_sem]
   clear hK5 K5
   refine hK2 _ ?_;clear hK2 K2
   refine aa.ab fun K10 hK10=>?_
   refine aa.region ?_
   simp only[go_sem]
   refine hK10 _ ?_;clear hK10 K10
   refine aa.ret ?_
   try simp only[go_sem]
   (exact⟨[],.v _,rfl,rfl,by rw[Jx (by omega) h2],rfl⟩))
theorem oS(l:List Od)(id:Bs)(hl:l.length≤9223372036854775807):ae E 163 [aR l,str id] (fun r t=>r=i64 (bN l id)∧t=[]):=by
 refine ae.av (n:=8) (rs:=[.tmp 4]) Tryz.func163 rfl Tryz.ntmps163 rfl ?_
 refine aa.ab fun K1 hK1=>?_
 refine aa.region ?_
 simp only[go_sem]
 refine hK1 _ ?_;clear hK1 K1
 refine aa.ab fun K2 hK2=>?_
 refine aa.region ?_
 simp only[go_sem]
 repeat'((refine ah.gS (Re l id hl) (by kernel_rfl) rfl (.cons (.one (.clean rfl)) (.cons (.fn (.cons (.ptr (e:= .agg [str id]) rfl (y4 id)) .nil)) .nil)) ?_;simp only[go_sem]))
 refine hK2 _ ?_;clear hK2 K2
 refine aa.ret ?_
 try simp only[go_sem]
 exact⟨[],.v _,rfl,rfl,rfl,rfl⟩
theorem kZ(l:List Od)(hl:l.length≤9223372036854775807):ae E 97 [aR l] (fun r t=>r=bl (aU l)∧t=[]):=by
 refine ae.av (n:=28) (rs:=[.tmp 2]) Tryz.func97 rfl Tryz.ntmps97 rfl ?_
 refine aa.ab fun K1 hK1=>?_
 refine aa.region ?_
 simp only[go_sem]
 refine hK1 _ ?_;clear hK1 K1
 refine aa.ab fun K2 hK2=>?_
 refine aa.ab fun K3 hK3=>?_
 refine aa.region ?_
 simp only[go_sem]
 repeat'(((with_reducible refine And.intro ?_ ?_);(focus(((simp;done))));(try simp only[hb,go_sem])))
 refine hK3 _ ?_;clear hK3 K3
 refine aa.cond rfl (fun c7=>?_) (fun c7=>?_)
 ·(
   try simp only[dD] at c7
   refine aa.ab fun K4 hK4=>?_
   refine aa.region ?_
   simp only[go_sem]
   refine hK4 _ ?_;clear hK4 K4
   refine aa.ret ?_
   try simp only[go_sem]
   clear hK2 K2
   (exact⟨[],.v _,rfl,rfl,by rw[AZ (by omega)],rfl⟩))
 ·(
   try simp only[dD] at c7
   refine aa.skip ?_
   refine hK2 _ ?_;clear hK2 K2
   refine aa.ab fun K5 hK5=>?_
   refine aa.ab fun K6 hK6=>?_
   refine aa.region ?_
   simp only[go_sem]
   repeat'(((with_reducible refine And.intro ?_ ?_);(focus(((simp;done))));(try simp only[hb,go_sem])))
   refine hK6 _ ?_;clear hK6 K6
   refine aa.block ?_
   refine aa.nI (ι:=Nat) [2,3,4,11,12,13,14,15,16,17,18,19,20,21,22,23,24,25,26,27] (fun(i:Nat)=>[(10,i64 i)]) (fun(i:Nat)=>i≤l.length∧l.length≤64∧jm l i=true) (fun(i:Nat)=>l.length-i) (0) ?_ ?_ ?_
   ·(try simp only[go_sem]);try(simp;done)
   ·exact⟨by omega,by omega,rfl⟩
   rintro i ⟨h1,h2,h3⟩
   simp only[go_sem]
   refine aa.ab fun K7 hK7=>?_
   refine aa.region ?_
   simp only[go_sem]
   refine hK7 _ ?_;clear hK7 K7
   refine aa.ab fun K8 hK8=>?_
   refine aa.cond rfl (fun c11=>?_) (fun c11=>?_)
   ·(
     try simp only[dD] at c11
     refine aa.skip ?_
     refine hK8 _ ?_;clear hK8 K8
     refine aa.ab fun K9 hK9=>?_
     refine aa.block ?_
     refine aa.ab fun K10 hK10=>?_
     refine aa.region ?_
     simp only[go_sem]
     repeat'(((refine aG.nth ?_ (fun b hb=>?_));(focus((omega)));(try simp only[hb,go_sem])))
     refine hK10 _ ?_;clear hK10 K10
     refine aa.ab fun K11 hK11=>?_
     refine aa.bc [0,1,2,3,4,5,6,7,8,9,10,11] [] (by kernel_rfl) (by kernel_rfl) rfl ?_
     simp only[go_sem]
     repeat'(first|(refine ah.one (lY _) (by kernel_rfl) rfl ?_;simp only[go_sem])|(refine ah.one (oS _ _ (by first|omega|(simp only[List.length_take];omega))) (by kernel_rfl) rfl ?_;simp only[go_sem])|(refine aH.split (fun h=>?_) (fun h=>?_)<;>simp only[h,go_sem]<;>try simp only[dD] at h)|((with_reducible refine And.intro ?_ ?_);(focus((omega)));(try simp only[hb,go_sem])))
     all_goals(
      refine hK11 _ ?_;clear hK11 K11
      refine aa.cond rfl (fun c26=>?_) (fun c26=>?_)
      ·(
        try simp only[dD] at c26
        refine aa.ab fun K12 hK12=>?_
        refine aa.region ?_
        simp only[go_sem]
        refine hK12 _ ?_;clear hK12 K12
        refine aa.ret ?_
        try simp only[go_sem]
        clear hK9 K9 hK5 K5
        first
        |exact⟨[],.v _,rfl,rfl,by rw[p4 (by omega) (AN hb (by assumption))],rfl⟩
        |exact⟨[],.v _,rfl,rfl,by rw[p4 (by omega) (Hf hb (by assumption))],rfl⟩)
      ·first|exact Bool.noConfusion c26|(
        try simp only[dD] at c26
        refine aa.skip ?_
        refine hK9 _ ?_;clear hK9 K9
        refine aa.region ?_
        simp only[go_sem]
        clear hK5 K5
        refine⟨i+1,?_,?_,?_⟩
        ·(try simp only[go_sem]);(try rw[aq (by omega) (by omega)]);simp
        ·exact⟨by omega,by omega,AP h3 (Pk hb (by assumption) (by assumption))⟩
        ·omega)))
   ·(
     try simp only[dD] at c11
     refine aa.exit ?_
     simp only[go_sem]
     clear hK8 K8
     refine hK5 _ ?_;clear hK5 K5
     refine aa.ab fun K13 hK13=>?_
     refine aa.region ?_
     simp only[go_sem]
     refine hK13 _ ?_;clear hK13 K13
     refine aa.ret ?_
     try simp only[go_sem]
     (exact⟨[],.v _,rfl,rfl,by rw[Bg h2 (by omega) h3],rfl⟩)))
theorem gA{r:List Od×Int}{e:Int}(h:r.2=e)(he:e≠0):∃x,AV.ax [.any,i64 e]= .ax [x,i64 r.2]∧(r.2=0→x=aR r.1):=⟨.any,by rw[h],fun h0=>absurd (h.symm.trans h0) he⟩
theorem ki{r:List Od×Int}{l:List Od}(h:r=(l,0)):∃x,AV.ax [aR l,i64 0]= .ax [x,i64 r.2]∧(r.2=0→x=aR r.1):=⟨aR l,by rw[h],fun _=>by rw[h]⟩
theorem sx(l:List Od)(id:Bs)(hl:l.length≤9223372036854775807):ae E 238 [aR l,str id] (fun r t=>r=i64 (fS l id)∧t=[]):=by
 refine ae.av (n:=20) (rs:=[.tmp 4]) Tryz.func238 rfl Tryz.ntmps238 rfl ?_
 refine aa.ab fun K1 hK1=>?_
 refine aa.region ?_
 simp only[go_sem]
 refine hK1 _ ?_;clear hK1 K1
 refine aa.ab fun K2 hK2=>?_
 refine aa.region ?_
 simp only[go_sem]
 repeat'((refine ah.one (oS _ _ (by(omega))) (by kernel_rfl) rfl ?_;simp only[go_sem]))
 refine hK2 _ ?_;clear hK2 K2
 refine aa.ab fun K3 hK3=>?_
 refine aa.ab fun K4 hK4=>?_
 rcases iQ l id with⟨e,e2⟩|⟨n,o,e,e2,hb⟩<;>simp only[e]
 all_goals(
  refine aa.region ?_
  simp only[go_sem]
  repeat'((refine aG.bA (by assumption) ?_;(try simp only[go_sem])))
  all_goals(
   refine hK4 _ ?_;clear hK4 K4
   refine aa.cond rfl (fun c18=>?_) (fun c18=>?_)
   ·first|exact Bool.noConfusion c18|(
     try simp only[dD] at c18
     refine aa.ab fun K5 hK5=>?_
     refine aa.region ?_
     simp only[go_sem]
     refine hK5 _ ?_;clear hK5 K5
     refine aa.ret ?_
     try simp only[go_sem]
     clear hK3 K3
     (exact⟨[],.v _,rfl,rfl,by rw[TX e hb (by assumption)],rfl⟩))
   ·(
     try simp only[dD] at c18
     refine aa.skip ?_
     refine hK3 _ ?_;clear hK3 K3
     refine aa.ab fun K6 hK6=>?_
     refine aa.region ?_
     simp only[go_sem]
     refine hK6 _ ?_;clear hK6 K6
     refine aa.ret ?_
     try simp only[go_sem]
     first
     |exact⟨[],.v _,rfl,rfl,by rw[Tr e hb (by assumption)],rfl⟩
     |exact⟨[],.v _,rfl,rfl,by rw[MR (by omega),e],rfl⟩)))
theorem qz(l:List Od)(id:Bs)(hl:l.length≤9223372036854775807):ae E 157 [aR l,str id] (fun r t=>r= .ax [aW (findF l id).1,bl (findF l id).2]∧t=[]):=by
 refine ae.av (n:=21) (rs:=[.cell 4 65,.tmp 5]) Tryz.func157 rfl Tryz.ntmps157 rfl ?_
 refine aa.ab fun K1 hK1=>?_
 refine aa.region ?_
 simp only[go_sem]
 refine hK1 _ ?_;clear hK1 K1
 refine aa.ab fun K2 hK2=>?_
 refine aa.ab fun K3 hK3=>?_
 refine aa.region ?_
 simp only[go_sem]
 repeat'((refine ah.one (kZ _ (by omega)) (by kernel_rfl) rfl ?_;simp only[go_sem]))
 refine hK3 _ ?_;clear hK3 K3
 refine aa.cond rfl (fun c9=>?_) (fun c9=>?_)
 ·(
   try simp only[dD] at c9
   refine aa.ab fun K4 hK4=>?_
   refine aa.region ?_
   simp only[go_sem]
   refine hK4 _ ?_;clear hK4 K4
   refine aa.ret ?_
   try simp only[go_sem]
   clear hK2 K2
   (exact⟨[],.ax [aW eH,.v _],rfl,⟨⟨rfl,rfl,rfl,rfl,rfl,rfl,rfl,rfl,trivial⟩,rfl,trivial⟩,by rw[KI (by assumption)],rfl⟩))
 ·(
   try simp only[dD] at c9
   refine aa.skip ?_
   refine hK2 _ ?_;clear hK2 K2
   refine aa.ab fun K5 hK5=>?_
   refine aa.region ?_
   simp only[go_sem]
   repeat'((refine ah.one (oS _ _ (by(omega))) (by kernel_rfl) rfl ?_;simp only[go_sem]))
   refine hK5 _ ?_;clear hK5 K5
   refine aa.ab fun K6 hK6=>?_
   refine aa.ab fun K7 hK7=>?_
   refine aa.region ?_
   simp only[go_sem]
   refine hK7 _ ?_;clear hK7 K7
   refine aa.cond rfl (fun c15=>?_) (fun c15=>?_)
   ·(
     try simp only[dD] at c15
     refine aa.ab fun K8 hK8=>?_
     refine aa.region ?_
     simp only[go_sem]
     refine hK8 _ ?_;clear hK8 K8
     refine aa.ret ?_
     try simp only[go_sem]
     clear hK6 K6
     (exact⟨[],.ax [aW eH,.v _],rfl,⟨⟨rfl,rfl,rfl,rfl,rfl,rfl,rfl,rfl,trivial⟩,rfl,trivial⟩,by rw[BI (by assumption) (by omega)],rfl⟩))
   ·(
     try simp only[dD] at c15
     refine aa.skip ?_
     refine hK6 _ ?_;clear hK6 K6
     refine aa.ab fun K9 hK9=>?_
     obtain⟨n,o,e,e2,hb⟩:∃n o,bN l id=(n:Nat)∧bS l id=some n∧l[n]?=some o:=by
      rcases iQ l id with⟨e,e2⟩|h
      ·exact absurd (show bN l id<0 by omega) (by assumption)
      ·exact h
     simp only[e]
     refine aa.region ?_
     simp only[go_sem]
     repeat'((refine aG.bA (by assumption) ?_;(try simp only[go_sem])))
     refine hK9 _ ?_;clear hK9 K9
     refine aa.ret ?_
     try simp only[go_sem]
     (exact⟨[],.ax [aW o,.v _],rfl,⟨⟨rfl,rfl,rfl,rfl,rfl,rfl,rfl,rfl,trivial⟩,rfl,trivial⟩,by rw[sf (by assumption) e hb],rfl⟩)))
theorem mj(l:List Od)(hl:l.length≤1000000):ae E 126 [aR l] (fun r t=>r= .sl (some 0) 8 (l.map aW)∧t=[l.length]):=by
 refine ae.av (n:=8) (rs:=[.tmp 2]) Tryz.func126 rfl Tryz.ntmps126 rfl ?_
 refine aa.ab fun K1 hK1=>?_
 refine aa.region ?_
 simp only[go_sem]
 refine hK1 _ ?_;clear hK1 K1
 refine aa.ab fun K2 hK2=>?_
 refine aa.ab fun K3 hK3=>?_
 refine aa.region ?_
 simp only[go_sem]
 repeat'(((with_reducible refine And.intro ?_ ?_);(focus(((simp;done))));(try simp only[hb,go_sem])))
 intro bb hbb
 refine hK3 _ ?_;clear hK3 K3
 refine aa.cond rfl (fun c4=>?_) (fun c4=>?_)
 ·(
   try simp only[dD] at c4
   refine aa.ab fun K4 hK4=>?_
   refine aa.region ?_
   simp only[go_sem]
   refine hK4 _ ?_;clear hK4 K4
   refine aa.ret ?_
   try simp only[go_sem]
   clear hK2 K2
   first
   |(have he:l=[]:=by
      apply Classical.byContradiction;intro hne
      have:=hbb (by simpa using hne)
      rw[this] at c4;exact absurd c4 (by simp)
     exact⟨[(false,8)],.sl (some 0) 8 [],rfl,rfl,by rw[he];rfl,by rw[he];rfl⟩))
 ·(
   try simp only[dD] at c4
   refine aa.skip ?_
   refine hK2 _ ?_;clear hK2 K2
   refine aa.ab fun K5 hK5=>?_
   refine aa.region ?_
   simp only[go_sem]
   repeat'(((with_reducible refine And.intro ?_ ?_);(focus((omega)));(try simp only[hb,go_sem])))
   refine hK5 _ ?_;clear hK5 K5
   refine aa.ret ?_
   try simp only[go_sem]
   (exact⟨[(true,0)],.sl (some 0) 8 _,rfl,⟨rfl,rfl,rfl⟩,by simp,by simp[gr]⟩))
theorem X3(l:List Od)(o:Od)(hl:l.length≤1000000):ae E 208 [aR l,aW o] (fun r t=>(∃x,r= .ax [x,i64 (cD l o).2]∧((cD l o).2=0→x=aR (cD l o).1))∧t=[]):=by
 refine ae.av (n:=36) (rs:=[.tmp 4,.tmp 5]) Tryz.func208 rfl Tryz.ntmps208 rfl ?_
 refine aa.ab fun K1 hK1=>?_
 refine aa.region ?_
 simp only[go_sem]
 refine hK1 _ ?_;clear hK1 K1
 refine aa.ab fun K2 hK2=>?_
 refine aa.region ?_
 simp only[go_sem]
 repeat'((refine ah.of (mj l hl) (by kernel_rfl) rfl ?_;rintro r t ⟨rfl,rfl⟩<;>simp only[go_sem]))
 refine hK2 _ ?_;clear hK2 K2
 refine aa.ab fun K3 hK3=>?_
 refine aa.region ?_
 simp only[go_sem]
 refine hK3 _ ?_;clear hK3 K3
 refine aa.ab fun K4 hK4=>?_
 refine aa.region ?_
 simp only[go_sem]
 refine hK4 _ ?_;clear hK4 K4
 refine aa.ab fun K5 hK5=>?_
 refine aa.block ?_
 refine aa.ab fun K6 hK6=>?_
 refine aa.region ?_
 simp only[go_sem]
 repeat'(first|(refine ah.one (kZ _ (by omega)) (by kernel_rfl) rfl ?_;simp only[go_sem])|(refine ah.one (lY ⟨o.id,o.acc,o.sym,o.au,o.al,o.aw,0,true⟩) (by kernel_rfl) rfl ?_;simp only[go_sem])|(refine aH.split (fun h=>?_) (fun h=>?_)<;>simp only[h,go_sem]<;>try simp only[dD] at h))
 all_goals(
  refine hK6 _ ?_;clear hK6 K6
  refine aa.cond rfl (fun c10=>?_) (fun c10=>?_)
  ·(
    try simp only[dD] at c10
    refine aa.ab fun K7 hK7=>?_
    refine aa.region ?_
    simp only[go_sem]
    refine hK7 _ ?_;clear hK7 K7
    refine aa.ret ?_
    try simp only[go_sem]
    clear hK5 K5
    first
    |exact⟨[],.ax [.any,.v _],rfl,⟨trivial,rfl,trivial⟩,gA (we (by assumption)) (by decide),rfl⟩
    |exact⟨[],.ax [.any,.v _],rfl,⟨trivial,rfl,trivial⟩,gA (y8 (by assumption)) (by decide),rfl⟩)
  ·first|exact Bool.noConfusion c10|(
    try simp only[dD] at c10
    refine aa.ab fun K8 hK8=>?_
    refine aa.region ?_
    simp only[go_sem]
    repeat'((refine ah.one (oS _ _ (by(omega))) (by kernel_rfl) rfl ?_;simp only[go_sem]))
    refine hK8 _ ?_;clear hK8 K8
    refine aa.cond rfl (fun c20=>?_) (fun c20=>?_)
    ·(
      try simp only[dD] at c20
      refine aa.ab fun K9 hK9=>?_
      refine aa.region ?_
      simp only[go_sem]
      refine hK9 _ ?_;clear hK9 K9
      refine aa.ret ?_
      try simp only[go_sem]
      clear hK5 K5
      (exact⟨[],.ax [.any,.v _],rfl,⟨trivial,rfl,trivial⟩,gA (yR (by assumption) (by assumption) (by assumption)) (by decide),rfl⟩))
    ·(
      try simp only[dD] at c20
      refine aa.ab fun K10 hK10=>?_
      refine aa.region ?_
      simp only[go_sem]
      repeat'(((with_reducible refine And.intro ?_ ?_);(focus(((simp;done))));(try simp only[hb,go_sem])))
      refine hK10 _ ?_;clear hK10 K10
      refine aa.cond rfl (fun c27=>?_) (fun c27=>?_)
      ·(
        try simp only[dD] at c27
        refine aa.ab fun K11 hK11=>?_
        refine aa.region ?_
        simp only[go_sem]
        refine hK11 _ ?_;clear hK11 K11
        refine aa.ret ?_
        try simp only[go_sem]
        clear hK5 K5
        (exact⟨[],.ax [.any,.v _],rfl,⟨trivial,rfl,trivial⟩,gA (yP (by assumption) (by assumption) (by assumption) (by omega)) (by decide),rfl⟩))
      ·(
        try simp only[dD] at c27
        refine aa.skip ?_
        refine hK5 _ ?_;clear hK5 K5
        refine aa.ab fun K12 hK12=>?_
        refine aa.region ?_
        simp only[go_sem]
        repeat'(((with_reducible refine And.intro ?_ ?_);(focus((omega)));(try simp only[hb,go_sem])))
        refine hK12 _ ?_;clear hK12 K12
        refine aa.ret ?_
        try simp only[go_sem]
        (exact⟨[],.ax [.sl none 8 _,.v _],rfl,⟨⟨rfl,by rw[List.map_append];rfl⟩,rfl,trivial⟩,ki (wZ (by assumption) (by assumption) (by assumption) (by omega)),rfl⟩)))))
theorem FY(l:List Od)(id:Bs)(hl:l.length≤1000000):ae E 212 [aR l,str id] (fun r t=>(∃x,r= .ax [x,i64 (dj l id).2]∧((dj l id).2=0→x=aR (dj l id).1))∧t=[]):=by
 refine ae.av (n:=24) (rs:=[.tmp 4,.tmp 5]) Tryz.func212 rfl Tryz.ntmps212 rfl ?_
 refine aa.ab fun K1 hK1=>?_
 refine aa.region ?_
 simp only[go_sem]
 refine hK1 _ ?_;clear hK1 K1
 refine aa.ab fun K2 hK2=>?_
 refine aa.region ?_
 simp only[go_sem]
 repeat'((refine ah.take (mj l hl) (by kernel_rfl) rfl (.cons (.one (.clean rfl)) .nil) ?_;rintro r t ⟨rfl,rfl⟩;refine⟨0,8,_,rfl,by simp,qG _,fun m=>?_⟩;simp only[go_sem,List.length_map]))
 refine hK2 _ ?_;clear hK2 K2
 refine aa.ab fun K3 hK3=>?_
 refine aa.ab fun K4 hK4=>?_
 refine aa.region ?_
 simp only[go_sem]
 repeat'((refine ah.gS (kZ l (by omega)) (by kernel_rfl) rfl (.cons (.one (.iY rfl (by simp) (ij l))) .nil) ?_;simp only[go_sem]))
 refine hK4 _ ?_;clear hK4 K4
 refine aa.cond rfl (fun c11=>?_) (fun c11=>?_)
 ·(
   try simp only[dD] at c11
   refine aa.ab fun K5 hK5=>?_
   refine aa.region ?_
   simp only[go_sem]
   refine hK5 _ ?_;clear hK5 K5
   refine aa.ret ?_
   try simp only[go_sem]
   clear hK3 K3
   (exact⟨[],.ax [.any,.v _],rfl,⟨trivial,rfl,trivial⟩,gA (Tt (by assumption)) (by decide),rfl⟩))
 ·(
   try simp only[dD] at c11
   refine aa.skip ?_
   refine hK3 _ ?_;clear hK3 K3
   refine aa.ab fun K6 hK6=>?_
   refine aa.region ?_
   simp only[go_sem]
   repeat'((refine ah.gS (sx l _ (by omega)) (by kernel_rfl) rfl (.cons (.one (.iY rfl (by simp) (ij l))) (.cons (.one (.clean rfl)) .nil)) ?_;simp only[go_sem]))
   refine hK6 _ ?_;clear hK6 K6
   refine aa.ab fun K7 hK7=>?_
   refine aa.ab fun K8 hK8=>?_
   refine aa.region ?_
   simp only[go_sem]
   refine hK8 _ ?_;clear hK8 K8
   refine aa.cond rfl (fun c17=>?_) (fun c17=>?_)
   ·(
     try simp only[dD] at c17
     refine aa.ab fun K9 hK9=>?_
     refine aa.region ?_
     simp only[go_sem]
     refine hK9 _ ?_;clear hK9 K9
     refine aa.ret ?_
     try simp only[go_sem]
     clear hK7 K7
     (exact⟨[],.ax [.any,.v _],rfl,⟨trivial,rfl,trivial⟩,gA (Gd (by assumption) (px (by assumption))) (by decide),rfl⟩))
   ·(
     try simp only[dD] at c17
     refine aa.skip ?_
     refine hK7 _ ?_;clear hK7 K7
     refine aa.ab fun K10 hK10=>?_
     obtain⟨n,o,e,e2,hb,ho⟩:∃n o,fS l id=(n:Nat)∧cF l id=some n∧l[n]?=some o∧o.bg=true:=by
      rcases qR l id with⟨e,e2⟩|h
      ·exact absurd (show fS l id<0 by omega) (by assumption)
      ·exact h
     simp only[e]
     have hn:n<l.length:=bI hb
     have hg:=pL hb (spare 8 m)
     refine aa.region ?_
     simp only[go_sem,hg]
     repeat'(((with_reducible refine And.intro ?_ ?_);(focus((omega)));(try simp only[hb,go_sem,hg])))
     refine hK10 _ ?_;clear hK10 K10
     refine aa.ab fun K11 hK11=>?_
     refine aa.lr 0 0 8 l.length _ ((l.set n ⟨o.id,o.acc,o.sym,o.au,o.al,o.aw,o.done,false⟩).map aW) (spare 8 m) rfl (congrArg (fun x=>some (some x)) (qY (o':=⟨o.id,o.acc,o.sym,o.au,o.al,o.aw,o.done,false⟩) hb (spare 8 m))) (by simp) (ij _) ?_
     simp only[go_sem]
     refine aa.region ?_
     simp only[go_sem]
     refine hK11 _ ?_;clear hK11 K11
     refine aa.ret ?_
     try simp only[go_sem]
     (exact⟨[],.ax [.sl none 8 _,.v _],rfl,⟨⟨rfl,rfl⟩,rfl,trivial⟩,ki (BL (by assumption) e2 hb),rfl⟩)))
theorem M7(l:List Od)(id:Bs)(q p:Int)(hq:q≤4611686018427387904)(hl:l.length≤1000000):ae E 236 [aR l,str id,i64 q,i64 p] (fun r t=>(∃x,r= .ax [x,i64 (cc l id q p).2]∧((cc l id q p).2=0→x=aR (cc l id q p).1))∧t=[]):=by
 refine ae.av (n:=68) (rs:=[.tmp 8,.tmp 9]) Tryz.func236 rfl Tryz.ntmps236 rfl ?_
 refine aa.ab fun K1 hK1=>?_
 refine aa.region ?_
 simp only[go_sem]
 refine hK1 _ ?_;clear hK1 K1
 refine aa.ab fun K2 hK2=>?_
 refine aa.region ?_
 simp only[go_sem]
 repeat'((refine ah.take (mj l hl) (by kernel_rfl) rfl (.cons (.one (.clean rfl)) .nil) ?_;rintro r t ⟨rfl,rfl⟩;refine⟨0,8,_,rfl,by simp,qG _,fun m=>?_⟩;simp only[go_sem,List.length_map]))
 refine hK2 _ ?_;clear hK2 K2
 refine aa.ab fun K3 hK3=>?_
 refine aa.ab fun K4 hK4=>?_
 refine aa.region ?_
 simp only[go_sem]
 repeat'((refine ah.gS (kZ l (by omega)) (by kernel_rfl) rfl (.cons (.one (.iY rfl (by simp) (ij l))) .nil) ?_;simp only[go_sem]))
 refine hK4 _ ?_;clear hK4 K4
 refine aa.cond rfl (fun c15=>?_) (fun c15=>?_)
 ·(
   try simp only[dD] at c15
   refine aa.ab fun K5 hK5=>?_
   refine aa.region ?_
   simp only[go_sem]
   refine hK5 _ ?_;clear hK5 K5
   refine aa.ret ?_
   try simp only[go_sem]
   clear hK3 K3
   (exact⟨[],.ax [.any,.v _],rfl,⟨trivial,rfl,trivial⟩,gA (y3 (by assumption)) (by decide),rfl⟩))
 ·(
   try simp only[dD] at c15
   refine aa.skip ?_
   refine hK3 _ ?_;clear hK3 K3
   refine aa.ab fun K6 hK6=>?_
   refine aa.region ?_
   simp only[go_sem]
   repeat'((refine ah.gS (sx l _ (by omega)) (by kernel_rfl) rfl (.cons (.one (.iY rfl (by simp) (ij l))) (.cons (.one (.clean rfl)) .nil)) ?_;simp only[go_sem]))
   refine hK6 _ ?_;clear hK6 K6
   refine aa.ab fun K7 hK7=>?_
   refine aa.ab fun K8 hK8=>?_
   refine aa.region ?_
   simp only[go_sem]
   refine hK8 _ ?_;clear hK8 K8
   refine aa.cond rfl (fun c21=>?_) (fun c21=>?_)
   ·(
     try simp only[dD] at c21
     refine aa.ab fun K9 hK9=>?_
     refine aa.region ?_
     simp only[go_sem]
     refine hK9 _ ?_;clear hK9 K9
     refine aa.ret ?_
     try simp only[go_sem]
     clear hK7 K7
     (exact⟨[],.ax [.any,.v _],rfl,⟨trivial,rfl,trivial⟩,gA (ue (by assumption) (px (by assumption))) (by decide),rfl⟩))
   ·(
     try simp only[dD] at c21
     refine aa.skip ?_
     refine hK7 _ ?_;clear hK7 K7
     refine aa.ab fun K10 hK10=>?_
     refine aa.ab fun K11 hK11=>?_
     obtain⟨n,o,e,e2,hb,ho⟩:∃n o,fS l id=(n:Nat)∧cF l id=some n∧l[n]?=some o∧o.bg=true:=by
      rcases qR l id with⟨e,e2⟩|h
      ·exact absurd (show fS l id<0 by omega) (by assumption)
      ·exact h
     simp only[e]
     have hn:n<l.length:=bI hb
     have hg:=pL hb (spare 8 m)
     refine aa.region ?_
     simp only[go_sem,hg]
     repeat'(first|(refine ah.one (zk _) (by kernel_rfl) rfl ?_;simp only[go_sem,hg])|(refine aH.bY (fun h=>?_) (fun h=>?_)<;>simp only[h,go_sem,hg]<;>try simp only[dD] at h)|((with_reducible refine And.intro ?_ ?_);(focus((omega)));(try simp only[hb,go_sem,hg])))
     all_goals(
      refine hK11 _ ?_;clear hK11 K11
      refine aa.cond rfl (fun c33=>?_) (fun c33=>?_)
      ·(
        try simp only[dD] at c33
        refine aa.ab fun K12 hK12=>?_
        refine aa.region ?_
        simp only[go_sem]
        refine hK12 _ ?_;clear hK12 K12
        refine aa.ret ?_
        try simp only[go_sem]
        clear hK10 K10
        first
        |exact⟨[],.ax [.any,.v _],rfl,⟨trivial,rfl,trivial⟩,gA (rA (by assumption) e2 hb (.inl (by assumption))) (by decide),rfl⟩
        |exact⟨[],.ax [.any,.v _],rfl,⟨trivial,rfl,trivial⟩,gA (rA (by assumption) e2 hb (.inr (by assumption))) (by decide),rfl⟩)
      ·first|exact Bool.noConfusion c33|(
        try simp only[dD] at c33
        refine aa.skip ?_
        refine hK10 _ ?_;clear hK10 K10
        refine aa.ab fun K13 hK13=>?_
        refine aa.ab fun K14 hK14=>?_
        refine aa.region ?_
        simp only[go_sem,hg]
        repeat'(first|(refine ah.one (OP _ _) (by kernel_rfl) rfl ?_;simp only[go_sem,hg])|((with_reducible refine And.intro ?_ ?_);(focus((omega)));(try simp only[hb,go_sem,hg])))
        refine hK14 _ ?_;clear hK14 K14
        refine aa.cond rfl (fun c41=>?_) (fun c41=>?_)
        ·(
          try simp only[dD] at c41
          refine aa.ab fun K15 hK15=>?_
          refine aa.region ?_
          simp only[go_sem]
          refine hK15 _ ?_;clear hK15 K15
          refine aa.ret ?_
          try simp only[go_sem]
          clear hK13 K13
          (exact⟨[],.ax [.any,.v _],rfl,⟨trivial,rfl,trivial⟩,gA (xN (by assumption) e2 hb (by assumption) (by assumption) (by assumption)) (by decide),rfl⟩))
        ·(
          try simp only[dD] at c41
          refine aa.skip ?_
          refine hK13 _ ?_;clear hK13 K13
          refine aa.ab fun K16 hK16=>?_
          have hroom:=Br (kX (by assumption) hb) (by assumption) (by assumption)
          have hw:IntKind.i64.wrap (o.done+q)=o.done+q:=aq (by omega) (by omega)
          refine aa.region ?_
          simp only[go_sem,hg]
          repeat'(((with_reducible refine And.intro ?_ ?_);(focus((omega)));(try simp only[hb,go_sem,hg])))
          refine hK16 _ ?_;clear hK16 K16
          refine aa.ab fun K17 hK17=>?_
          rw[hw]
          rw[qY (o':=⟨o.id,o.acc,o.sym,o.au,o.al,o.aw,o.done+q,o.bg⟩) hb (spare 8 m)]
          have hb2:(l.set n ⟨o.id,o.acc,o.sym,o.au,o.al,o.aw,o.done+q,o.bg⟩)[n]?=some ⟨o.id,o.acc,o.sym,o.au,o.al,o.aw,o.done+q,o.bg⟩:=List.getElem?_set_self hn
          have hg2:=pL hb2 (spare 8 m)
          refine aa.bc [0,1,2,3,4,5,6,7,8,9,10,11,12,13,14,15] [] (by kernel_rfl) (by kernel_rfl) rfl ?_
          simp only[go_sem,hg2]
          repeat'(((with_reducible refine And.intro ?_ ?_);(focus((omega)));(try simp only[hb,go_sem,hg2])))
          refine hK17 _ ?_;clear hK17 K17
          refine aa.ab fun K18 hK18=>?_
          refine aa.lr 0 0 8 l.length _ (((l.set n ⟨o.id,o.acc,o.sym,o.au,o.al,o.aw,o.done+q,o.bg⟩).set n ⟨o.id,o.acc,o.sym,o.au,o.al,o.aw,o.done+q,decide (o.done+q<o.al)⟩).map aW) (spare 8 m) rfl (congrArg (fun x=>some (some x)) (qY (o':=⟨o.id,o.acc,o.sym,o.au,o.al,o.aw,o.done+q,decide (o.done+q<o.al)⟩) hb2 (spare 8 m))) (by simp) (ij _) ?_
          simp only[go_sem]
          refine aa.region ?_
          simp only[go_sem]
          refine hK18 _ ?_;clear hK18 K18
          refine aa.ret ?_
          try simp only[go_sem]
          (exact⟨[],.ax [.sl none 8 _,.v _],rfl,⟨⟨rfl,by rw[List.set_set]⟩,rfl,trivial⟩,ki (kr (by assumption) e2 hb (by assumption) (by assumption) (by assumption)),rfl⟩))))))
theorem DZ{l:List Od}{n:Nat}{o:Od}(sp:List AV):((l.set n o).map aW++sp).take l.length=(l.set n o).map aW:=by
 rw[List.take_left' (by simp)]
theorem Ik(l:List Od)(a b:Bs)(q p:Int)(hl:l.length≤1000000):ae E 237 [aR l,str a,str b,i64 q,i64 p] (fun r t=>(∃x,r= .ax [x,i64 (ca l a b q p).2]∧((ca l a b q p).2=0→x=aR (ca l a b q p).1))∧t=[]):=by
 refine ae.av (n:=66) (rs:=[.tmp 10,.tmp 11]) Tryz.func237 rfl Tryz.ntmps237 rfl ?_
 refine aa.ab fun K1 hK1=>?_
 refine aa.region ?_
 simp only[go_sem]
 refine hK1 _ ?_;clear hK1 K1
 refine aa.ab fun K2 hK2=>?_
 refine aa.region ?_
 simp only[go_sem]
 repeat'((refine ah.take (mj l hl) (by kernel_rfl) rfl (.cons (.one (.clean rfl)) .nil) ?_;rintro r t ⟨rfl,rfl⟩;refine⟨0,8,_,rfl,by simp,qG _,fun m=>?_⟩;simp only[go_sem,List.length_map]))
 refine hK2 _ ?_;clear hK2 K2
 refine aa.ab fun K3 hK3=>?_
 refine aa.ab fun K4 hK4=>?_
 refine aa.region ?_
 simp only[go_sem]
 repeat'((refine ah.gS (kZ l (by omega)) (by kernel_rfl) rfl (.cons (.one (.iY rfl (by simp) (ij l))) .nil) ?_;simp only[go_sem]))
 refine hK4 _ ?_;clear hK4 K4
 refine aa.cond rfl (fun c18=>?_) (fun c18=>?_)
 ·(
   try simp only[dD] at c18
   refine aa.ab fun K5 hK5=>?_
   refine aa.region ?_
   simp only[go_sem]
   refine hK5 _ ?_;clear hK5 K5
   refine aa.ret ?_
   try simp only[go_sem]
   clear hK3 K3
   (exact⟨[],.ax [.any,.v _],rfl,⟨trivial,rfl,trivial⟩,gA (rV (by assumption)) (by decide),rfl⟩))
 ·(
   try simp only[dD] at c18
   refine aa.skip ?_
   refine hK3 _ ?_;clear hK3 K3
   refine aa.ab fun K6 hK6=>?_
   refine aa.region ?_
   simp only[go_sem]
   repeat'((refine ah.gS (sx l _ (by omega)) (by kernel_rfl) rfl (.cons (.one (.iY rfl (by simp) (ij l))) (.cons (.one (.clean rfl)) .nil)) ?_;simp only[go_sem]))
   refine hK6 _ ?_;clear hK6 K6
   refine aa.ab fun K7 hK7=>?_
   refine aa.ab fun K8 hK8=>?_
   refine aa.region ?_
   simp only[go_sem]
   refine hK8 _ ?_;clear hK8 K8
   refine aa.cond rfl (fun c24=>?_) (fun c24=>?_)
   ·(
     try simp only[dD] at c24
     refine aa.ab fun K9 hK9=>?_
     refine aa.region ?_
     simp only[go_sem]
     refine hK9 _ ?_;clear hK9 K9
     refine aa.ret ?_
     try simp only[go_sem]
     clear hK7 K7
     (exact⟨[],.ax [.any,.v _],rfl,⟨trivial,rfl,trivial⟩,gA (oy (by assumption) (px (by assumption))) (by decide),rfl⟩))
   ·(
     try simp only[dD] at c24
     refine aa.skip ?_
     refine hK7 _ ?_;clear hK7 K7
     refine aa.ab fun K10 hK10=>?_
     obtain⟨n,o,e,e2,hb,ho⟩:∃n o,fS l a=(n:Nat)∧cF l a=some n∧l[n]?=some o∧o.bg=true:=by
      rcases qR l a with⟨e,e2⟩|h
      ·exact absurd (show fS l a<0 by omega) (by assumption)
      ·exact h
     simp only[e]
     have hn:n<l.length:=bI hb
     have hg:=pL hb (spare 8 m)
     refine aa.region ?_
     simp only[go_sem,hg]
     repeat'(((with_reducible refine And.intro ?_ ?_);(focus((omega)));(try simp only[hb,go_sem,hg])))
     refine hK10 _ ?_;clear hK10 K10
     refine aa.ab fun K11 hK11=>?_
     refine aa.region ?_
     simp only[go_sem]
     refine hK11 _ ?_;clear hK11 K11
     refine aa.ab fun K12 hK12=>?_
     refine aa.region ?_
     simp only[go_sem]
     refine hK12 _ ?_;clear hK12 K12
     refine aa.ab fun K13 hK13=>?_
     refine aa.block ?_
     refine aa.ab fun K14 hK14=>?_
     refine aa.region ?_
     simp only[go_sem]
     repeat'((refine ah.one (lY (⟨b,o.acc,o.sym,o.au,q,p,o.done,decide (o.done<q)⟩:Od)) (by kernel_rfl) rfl ?_;simp only[go_sem]))
     refine hK14 _ ?_;clear hK14 K14
     refine aa.cond rfl (fun c42=>?_) (fun c42=>?_)
     ·(
       try simp only[dD] at c42
       refine aa.ab fun K15 hK15=>?_
       refine aa.region ?_
       simp only[go_sem]
       refine hK15 _ ?_;clear hK15 K15
       refine aa.ret ?_
       try simp only[go_sem]
       clear hK13 K13
       (exact⟨[],.ax [.any,.v _],rfl,⟨trivial,rfl,trivial⟩,gA (xP (by assumption) e2 hb (by assumption)) (by decide),rfl⟩))
     ·(
       try simp only[dD] at c42
       refine aa.ab fun K16 hK16=>?_
       refine aa.region ?_
       simp only[go_sem]
       repeat'((refine ah.gS (oS l _ (by omega)) (by kernel_rfl) rfl (.cons (.one (.iY rfl (by simp) (ij l))) (.cons (.one (.clean rfl)) .nil)) ?_;simp only[go_sem]))
       refine hK16 _ ?_;clear hK16 K16
       refine aa.cond rfl (fun c47=>?_) (fun c47=>?_)
       ·(
         try simp only[dD] at c47
         refine aa.ab fun K17 hK17=>?_
         refine aa.region ?_
         simp only[go_sem]
         refine hK17 _ ?_;clear hK17 K17
         refine aa.ret ?_
         try simp only[go_sem]
         clear hK13 K13
         (exact⟨[],.ax [.any,.v _],rfl,⟨trivial,rfl,trivial⟩,gA (qN (by assumption) e2 hb (by assumption) (by assumption)) (by decide),rfl⟩))
       ·(
         try simp only[dD] at c47
         refine aa.ab fun K18 hK18=>?_
         refine aa.region ?_
         simp only[go_sem]
         repeat'(((with_reducible refine And.intro ?_ ?_);(focus(((simp;done))));(try simp only[hb,go_sem])))
         refine hK18 _ ?_;clear hK18 K18
         refine aa.cond rfl (fun c53=>?_) (fun c53=>?_)
         ·(
           try simp only[dD] at c53
           refine aa.ab fun K19 hK19=>?_
           refine aa.region ?_
           simp only[go_sem]
           refine hK19 _ ?_;clear hK19 K19
           refine aa.ret ?_
           try simp only[go_sem]
           clear hK13 K13
           (exact⟨[],.ax [.any,.v _],rfl,⟨trivial,rfl,trivial⟩,gA (BF (by assumption) e2 hb (by assumption) (by assumption) (by omega)) (by decide),rfl⟩))
         ·(
           try simp only[dD] at c53
           refine aa.skip ?_
           refine hK13 _ ?_;clear hK13 K13
           refine aa.ab fun K20 hK20=>?_
           refine aa.region ?_
           simp only[go_sem]
           repeat'(first|(refine aG.fT (by assumption) ?_;(try simp only[go_sem]))|((with_reducible refine And.intro ?_ ?_);(focus((omega)));(try simp only[hb,go_sem])))
           refine hK20 _ ?_;clear hK20 K20
           refine aa.ab fun K21 hK21=>?_
           have hrl:=ly (l:=l) (by assumption)
           rw[qY (o':=⟨o.id,o.acc,o.sym,o.au,o.al,o.aw,o.done,false⟩) hb (spare 8 m)]
           refine aa.region ?_
           simp only[go_sem]
           repeat'(((with_reducible refine And.intro ?_ ?_);(focus((first|omega|(simp;done)|(simp[cA];done))));(try simp only[hb,go_sem])))
           intro m2
           simp only[go_sem,DZ]
           refine hK21 _ ?_;clear hK21 K21
           refine aa.lr 10 2 8 (l.length+1) _ ((l.set n ⟨o.id,o.acc,o.sym,o.au,o.al,o.aw,o.done,false⟩++[(⟨b,o.acc,o.sym,o.au,q,p,o.done,decide (o.done<q)⟩:Od)]).map aW) (spare 8 m2) rfl (by simp only[List.map_append];rfl) (by simp) (ij _) ?_
           simp only[go_sem]
           refine aa.ret ?_
           try simp only[go_sem]
           (exact⟨[],.ax [.sl none 8 _,.v _],rfl,⟨⟨rfl,rfl⟩,rfl,trivial⟩,ki (BQ (by assumption) e2 hb (by assumption) (by assumption) (by omega)),rfl⟩))))))
end Go.Proofs.YtajeeghgiilhiaaGreat
end
